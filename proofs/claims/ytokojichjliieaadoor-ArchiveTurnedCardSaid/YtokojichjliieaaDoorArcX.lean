/- The walk of ArchiveTurned. -/
import Derived.Test.YtokojichjliieaaDoorArcW
import Derived.Laws.BitsAllLaws
namespace Go.Proofs.YtokojichjliieaaDoor
open Go.RowKit
theorem xor_u8 (x y : UInt8) : bits .xor .u8 (x.toNat : Int) (y.toNat : Int) = ((x ^^^ y).toNat : Int) := by
  have := u8_xor_nat x.toNat y.toNat (by have := x.toNat_lt; omega) (by have := y.toNat_lt; omega)
  rw [this, UInt8.toNat_xor]
theorem endI_neg (b : List UInt8) : (endI b < 0 → endP b = none) ∧ (¬ endI b < 0 → ∃ p, endP b = some p) := by
  unfold endI
  cases endP b with
  | none => exact ⟨fun _ => rfl, fun h => absurd (by decide) h⟩
  | some p => exact ⟨fun h => absurd h (by show ¬ (p : Int) < 0; omega), fun _ => ⟨p, rfl⟩⟩
set_option maxRecDepth 100000 in
set_option maxHeartbeats 16000000 in
theorem archiveTurned_walk (mx : Int) (w : World) (hm : w.cell? ⟨0, 0, none⟩ = some (.int .i64 mx)) (A0 : Option Addr) (n0 c0 : Nat) (l0 : List UInt8) (e0 : l0.length = n0) (hc0 : n0 ≤ c0) (hm0 : (c0 : Int) ≤ 9223372036854775807) (r0 : RB w w.heap.size A0 l0) (b0 : n0 ≤ 140737488351232) (x1 : Int) (h1 : 0 ≤ x1 ∧ x1 ≤ 65535) (x2 : Int) (h2 : 0 ≤ x2 ∧ x2 ≤ 255) :
    Calls Tryd.prog 6 #[.slice A0 n0 c0, .int .u16 x1, .int .u8 x2] w fun e w' => e = .returned (.bool true) ∧ Below w.heap.size w w' := by
  obtain ⟨at_, rfl⟩ : ∃ a : Nat, x1 = (a : Int) := ⟨x1.toNat, by omega⟩
  obtain ⟨yb, rfl⟩ : ∃ y : UInt8, x2 = (y.toNat : Int) := ⟨UInt8.ofNat x2.toNat, by rw [UInt8.toNat_ofNat']; omega⟩
  have hat : at_ ≤ 65535 := by omega
  have HM := bx hm
  have HE := bx e0
  have HR0 := bx r0
  clear hm e0 r0 h1 h2
  go_enter Tryd.func6, Tryd.ntmps6
  go_wp2_with fail
  refine (fixed09_any mx w HM.out).mono ?_
  rintro e w1 ⟨rfl, hb1⟩
  have HB1 := bx hb1
  have HR1 := bx ((HR0.out.below hb1 (Nat.le_refl _)).more hb1.size)
  clear hb1
  obtain ⟨X, hX⟩ : ∃ X, dirA l0 = X := ⟨_, rfl⟩
  have HD := bx (dir_any A0 n0 c0 l0 w1 mx HE.out b0 hc0 hm0 HR1.out (cell_old HB1.out HM.out))
  rw [hX] at HD
  cases X with
  | err k =>
    have hk := dirA_pos hX
    have hkI : (k != 0) = true := by rw [bne_iff_ne]; omega
    clear hX
    go_wp2_with fail
    refine HD.out.mono ?_
    intro e w2 hp
    obtain ⟨rfl, hb2⟩ := dirpost_err hp rfl
    have HB2 := bx (HB1.out.trans (hb2.mono HB1.out.size))
    clear hp hb2
    go_wp2
    go_ret
    exact ⟨rfl, HB2.out⟩
  | ok L =>
  obtain ⟨h64, p, dir, D⟩ := dirA_ok hX
  have hpe := (endP_some D.fin).1
  have hL64 := D.len
  have HX := bx hX
  have HD2 := bx D.good
  have hn1 : 22 ≤ n0 := by have := HE.out; omega
  have hn2 : n0 ≤ 65536 := by have := HE.out; omega
  obtain ⟨nL, hnL⟩ : ∃ nL, L.length = nL := ⟨_, rfl⟩
  have hnl64 : nL ≤ 64 := by rw [← hnL]; exact hL64
  have HNL := bx hnL
  clear hX hnL D hpe hL64 h64
  go_wp2_with fail
  refine HD.out.mono ?_
  intro e w2 hp
  obtain ⟨A2, c2, rfl, _, hr2, hc2, hb2⟩ := dirpost_ok hp rfl
  have HR2 := bx hr2
  have HB2 := bx (HB1.out.trans (hb2.mono HB1.out.size))
  rw [HNL.out] at hc2
  clear hp hb2 hr2
  rw [HNL.out]
  have hn3 : ¬ (70000 : Int) < (n0 : Int) := by omega
  have hn4 : ((n0 : Int) == 0) = false := by rw [beq_eq_false_iff_ne]; omega
  have hn5 : (0 : Int) < (n0 : Int) := by omega
  by_cases hy : yb = 0
  · have hyI : ((yb.toNat : Int) == 0) = true := by rw [hy]; rfl
    clear hy
    go_wp2
    go_ret
    exact ⟨ret_v (show Value.bool (decide (0 < n0)) = Value.bool true by rw [decide_eq_true (show 0 < n0 by omega)]), HB2.out⟩
  have hyI : ((yb.toNat : Int) == 0) = false := by
    rw [beq_eq_false_iff_ne]
    intro e
    exact hy (UInt8.toNat_inj.1 (by show yb.toNat = 0; omega))
  obtain ⟨B2, hB2⟩ : ∃ B2, w2.heap.size = B2 := ⟨_, rfl⟩
  have HBB := bx hB2
  have hwB : w.heap.size ≤ B2 := by rw [← hB2]; exact HB2.out.size
  have HCc := bx (show Below B2 w2 w2 from Below.refl _ _)
  clear hB2 hy
  go_wp2_with fail
  go_loopw [9, 52] (fun lv iv wx => ∃ t m : Nat, t ≤ nL ∧ m ≤ n0 ∧ iv = .int .i64 (t : Int) ∧ lv = .int .i64 (m : Int) ∧ Bx (Below B2 w2 wx) ∧ Bx (∀ (j : Nat) (x : Rec × Nat), j < t → L[j]? = some x → m ≤ x.1.head)) (fun _ i _ => nL - (intOf i).toNat)
  case atStart => exact ⟨0, n0, by omega, by omega, rfl, rfl, HCc, bx (fun j x h => absurd h (by omega))⟩
  case round =>
    obtain ⟨t, m, ht, hmn, rfl, rfl, HW, HLE⟩ := hrel
    have hszw : B2 ≤ wr.heap.size := by have := HW.out.size; have := HBB.out; omega
    by_cases htn : t < nL
    · -- DEV{
      have htI : (t : Int) < (nL : Int) := by omega
      have hrr : RS recL wr wr.heap.size A2 L := (HR2.out.below (HBB.out ▸ HW.out) (Nat.le_refl _)).more (by rw [HBB.out]; exact hszw)
      obtain ⟨ad, x, hA, _, hx, hc, hcs⟩ := hrr.at_ recCels (k := t) (by rw [HNL.out]; exact htn)
      subst hA
      have HX2 := bx hx.out
      obtain ⟨⟨nm, me, pk, si, su, hd⟩, at2⟩ := x
      have k0 := hc _ rfl
      have k1 := hcs 0 _ rfl
      have k2 := hcs 1 _ rfl
      have k3 := hcs 2 _ rfl
      have k4 := hcs 3 _ rfl
      have k5 := hcs 4 _ rfl
      have k6 := hcs 5 _ rfl
      rw [Nat.zero_add] at k1
      obtain ⟨w4, hw4⟩ : ∃ w4, (wr.alloc (.cells z7 33)).setRow wr.heap.size #[strV nm, .int .i64 (me : Int), .int .i64 (pk : Int), .int .i64 (si : Int), .int .i64 (su : Int), .int .i64 (at2 : Int), .int .i64 (hd : Int)] = w4 := ⟨_, rfl⟩
      have hK4 : Bk w4 wr.heap.size 33 #[strV nm, .int .i64 (me : Int), .int .i64 (pk : Int), .int .i64 (si : Int), .int .i64 (su : Int), .int .i64 (at2 : Int), .int .i64 (hd : Int)] := by rw [← hw4]; exact ((Bk.new wr _ z7).setRow _)
      have n6 : w4.cell? ⟨wr.heap.size, 6, none⟩ = some (.int .i64 (hd : Int)) := (hK4.cell 6).trans rfl
      have HB4 := bx (show Below B2 w2 w4 from HW.out.trans (by rw [← hw4]; exact (bl_setRow (bl_alloc (Below.refl wr.heap.size wr) (Nat.le_refl _) _) (Nat.le_refl _) _).mono hszw))
      have hone : (#[strV nm, .int .i64 (me : Int), .int .i64 (pk : Int), .int .i64 (si : Int), .int .i64 (su : Int), .int .i64 (at2 : Int), .int .i64 (hd : Int)] : Array Value).all (·.oneCell') = true := by simp [strV, Value.oneCell']
      have HONE := bx hone
      have HW4e := bx hw4
      clear hw4 hK4 hone hc hcs hx hrr
      by_cases hmh : m ≤ hd
      · have hmI : (m : Int) ≤ (hd : Int) := by omega
        have hmin : min (m : Int) (hd : Int) = (m : Int) := by omega
        have HLE2 : Bx (∀ (j : Nat) (x : Rec × Nat), j < t + 1 → L[j]? = some x → m ≤ x.1.head) := bx (fun j x hj h => by
          by_cases e : j = t
          · subst e; rw [HX2.out] at h; injection h with h; rw [← h]; exact hmh
          · exact HLE.out j x (by omega) h)
        clear hmh
        go_wp2_with (refine wpList_store_row rfl 33 (.tmp 11) (.tmp 55) rfl wr.heap.size #[strV nm, .int .i64 (me : Int), .int .i64 (pk : Int), .int .i64 (si : Int), .int .i64 (su : Int), .int .i64 (at2 : Int), .int .i64 (hd : Int)] rfl rfl 33 z7 (Bk.new _ _ _) info_rec rfl HONE.out ?_; rw [z7_eq, HW4e.out])
        go_roundw
        case rel => exact ⟨t + 1, m, by omega, by omega, by go_num, rfl, HB4, HLE2⟩
        case measure => simp [intOf]; omega
      · have hmI : ¬ (m : Int) ≤ (hd : Int) := by omega
        have hmJ : (hd : Int) < (m : Int) := by omega
        have hmin : min (m : Int) (hd : Int) = (hd : Int) := by omega
        have HLE2 : Bx (∀ (j : Nat) (x : Rec × Nat), j < t + 1 → L[j]? = some x → hd ≤ x.1.head) := bx (fun j x hj h => by
          by_cases e : j = t
          · subst e; rw [HX2.out] at h; injection h with h; rw [← h]; exact Nat.le_refl _
          · have := HLE.out j x (by omega) h; omega)
        have hdn : hd ≤ n0 := by omega
        clear hmh
        go_wp2_with (refine wpList_store_row rfl 33 (.tmp 11) (.tmp 55) rfl wr.heap.size #[strV nm, .int .i64 (me : Int), .int .i64 (pk : Int), .int .i64 (si : Int), .int .i64 (su : Int), .int .i64 (at2 : Int), .int .i64 (hd : Int)] rfl rfl 33 z7 (Bk.new _ _ _) info_rec rfl HONE.out ?_; rw [z7_eq, HW4e.out])
        go_roundw
        case rel => exact ⟨t + 1, hd, by omega, hdn, by go_num, rfl, HB4, HLE2⟩
        case measure => simp [intOf]; omega
      -- DEV}
    have htI : ¬ (t : Int) < (nL : Int) := by omega
    obtain rfl : t = nL := by omega
    have HWr := bx (HB2.out.trans (HW.out.mono hwB))
    have HRr := bx (show RS recL wr wr.heap.size A2 L from (HR2.out.below (HBB.out ▸ HW.out) (Nat.le_refl _)).more (by rw [HBB.out]; exact hszw))
    have HI := bx (show RB wr wr.heap.size A0 l0 from (HR0.out.below HWr.out (Nat.le_refl _)).more HWr.out.size)
    have HN : Bx ((([] : List UInt8).length + l0.length) * 1 ≤ 140737488355328) := bx (by have := HE.out; simp; omega)
    obtain ⟨kk, hkk⟩ : ∃ kk, at_ % n0 = kk := ⟨_, rfl⟩
    have hkn : kk < n0 := by rw [← hkk]; exact Nat.mod_lt _ (by omega)
    have hmod : (at_ : Int) % (n0 : Int) = (kk : Int) := by rw [← hkk]; omega
    have htmod : (at_ : Int).tmod (n0 : Int) = (kk : Int) := by rw [Int.tmod_eq_emod_of_nonneg (by omega)]; exact hmod
    obtain ⟨xb, hxb⟩ : ∃ x, l0[kk]? = some x := ⟨_, List.getElem?_eq_getElem (by rw [HE.out]; exact hkn)⟩
    obtain ⟨zb, hzb⟩ : ∃ z, xb ^^^ yb = z := ⟨_, rfl⟩
    have hxor := xor_u8 xb yb
    rw [hzb] at hxor
    have hn6 : ¬ (n0 : Int) = 0 := by omega
    have hkI : (kk : Int) < (n0 : Int) := by omega
    have HXB := bx hxb
    clear hkk hxb hzb htn ht
    go_wp2_with (at_builtin; refine wpList_appL _ bV_one rfl (.tmp 61) (.tmp 62) rfl byteTy (by decide) wr.heap.size _ [] rfl (OwL.lit0 wr (Nat.le_refl _)) _ A0 n0 c0 l0 rfl HE.out (HI.out.alloc (Nat.le_refl _) _) HN.out (le_alloc0 (Nat.le_refl _) _) ?_
                 intro v3 w3 own3 _ _ hb3
                 rw [List.nil_append] at own3
                 have HB3 := bx ((bl_alloc (Below.refl wr.heap.size wr) (Nat.le_refl _) (.cells #[] 5)).trans hb3)
                 obtain ⟨gc, cc, hv3, hgc, hgc2⟩ := World.ownsRow.form own3 (by rw [HE.out]; omega)
                 rw [HE.out] at hv3
                 subst hv3
                 have hcell : w3.cell? ⟨gc, kk, none⟩ = some (.int .u8 (xb.toNat : Int)) := OwL.cell own3 HXB.out
                 have hfr := OwL.frz own3 kk
                 have HO3 := bx own3
                 clear own3 hb3)
    obtain ⟨w5, hw5⟩ : ∃ w5, w3.setCell ⟨gc, kk, none⟩ (.int .u8 (zb.toNat : Int)) = w5 := ⟨_, rfl⟩
    obtain ⟨l1, hl1⟩ : ∃ l1, l0.set kk zb = l1 := ⟨_, rfl⟩
    have HO5 : Bx (OwB w5 wr.heap.size 5 (.slice (some ⟨gc, 0, none⟩) n0 cc) l1) := by
      have := HO3.out.set kk zb
      rw [hl1] at this
      rw [← hw5]; exact bx this
    have HB5 : Bx (Below wr.heap.size wr w5) := by rw [← hw5]; exact bx (HB3.out.setCell (p := ⟨gc, kk, none⟩) hgc _)
    have hlen : l0.length = l1.length := by rw [← hl1, List.length_set]
    have hag : ∀ i, kk + 1 ≤ i → l0[i]? = l1[i]? := fun i hi => by rw [← hl1, List.getElem?_set_ne (by omega)]
    have hl1n : l1.length = n0 := by rw [← hlen, HE.out]
    have HL1 := bx hl1n
    rw [hw5]
    obtain ⟨A5, c5, hv5, hr5, hc5, hc5'⟩ := HO5.out.rd
    injection hv5 with hv5a hv5b hv5c
    subst hv5a
    subst hv5c
    rw [HL1.out] at hc5
    have HR5 := bx hr5
    have HW5 := bx (HWr.out.trans (HB5.out.mono HWr.out.size))
    obtain ⟨k2, L2, hKL⟩ : ∃ k L, dirKL (dirA l1) = (k, L) := ⟨_, _, rfl⟩
    have hL2 := dirKL_len l1
    rw [hKL] at hL2
    have hL2' : L2.length ≤ 64 := hL2
    obtain ⟨nM, hnM⟩ : ∃ nM, L2.length = nM := ⟨_, rfl⟩
    rw [hnM] at hL2'
    have HNM := bx hnM
    have HKL := bx hKL
    have hT := fun (hk : kk < m) (hne : 0 < t) => dirA_turn hlen hag HX.out (fun x hx => by
      obtain ⟨j, hj, e⟩ := List.getElem_of_mem hx
      have := HLE.out j x (by rw [HNL.out] at hj; exact hj) (by rw [List.getElem?_eq_getElem hj, e])
      omega) (fun e => by have := HNL.out; rw [e] at this; simp at this; omega)
    have HT := bx hT
    have HRr5 := bx (HRr.out.below HB5.out (Nat.le_refl _) |>.more HB5.out.size)
    clear hT hlen hag hl1 hl1n hw5 hv5b hr5 HO3 HB3 hcell hfr hKL hL2 hnM hmod htmod hxor HO5 HI
    refine (dir_any (some ⟨gc, 0, none⟩) n0 cc l1 w5 mx HL1.out b0 hc5 hc5' HR5.out (cell_old HW5.out HM.out)).mono ?_
    intro e6 w6 hp
    obtain ⟨A6, c6, rfl, hr6, hc6, hb6⟩ := dirpost_any hp HKL.out
    have HR6 := bx hr6
    have HRr6 := bx (HRr5.out.step hb6)
    have HR56 := bx (HR5.out.step hb6)
    have HW6 := bx (HW5.out.trans (hb6.mono HW5.out.size))
    clear hp hr6 hb6 HRr5 HR5 HRr
    rw [HNM.out]
    by_cases hcase : kk < m ∧ 0 < t
    · have q1 : (kk : Int) < (m : Int) := by omega
      have q2 : decide (kk < m) = true := decide_eq_true hcase.1
      have q3 : (0 : Int) < (t : Int) := by omega
      obtain ⟨v, hv⟩ : ∃ v, endI l1 = v := ⟨_, rfl⟩
      have HEND := bx (rend_any (some ⟨gc, 0, none⟩) n0 cc l1 w6 HL1.out (by omega) hc5 hc5' HR56.out)
      rw [hv] at HEND
      have hT := HT.out hcase.1 hcase.2
      have hEI := endI_neg l1
      rw [hv] at hEI
      have HEI := bx hEI
      have HTT := bx hT
      clear hcase hv hEI hT
      go_wp2_with fail
      refine HEND.out.mono ?_
      rintro e7 w7 ⟨rfl, hb7⟩
      have HW7 := bx (HW6.out.trans (hb7.mono HW6.out.size))
      have HR67 := bx (HR6.out.step hb7)
      have HRr7 := bx (HRr6.out.step hb7)
      clear hb7
      by_cases hv0 : v < 0
      · have hd := HKL.out
        rw [HTT.out.1 (HEI.out.1 hv0)] at hd
        injection hd with hd1 hd2
        subst hd1
        clear hd2
        go_wp2
        go_ret
        exact ⟨rfl, HW7.out⟩
      · obtain ⟨p2, hp2⟩ := HEI.out.2 (by omega)
        have hd := HKL.out
        rw [HTT.out.2 p2 hp2] at hd
        injection hd with hd1 hd2
        subst hd1
        subst hd2
        have hnm : nM = t := by rw [← HNM.out, HNL.out]
        subst hnm
        clear hp2
        go_wp2_with fail
        refine (sameRecs_any A2 A6 nM c2 nM c6 L L w7 HNL.out HNL.out (by omega) (by omega) HRr7.out HR67.out).mono ?_
        rintro e8 w8 ⟨rfl, hb8⟩
        rw [show decide (L = L) = true from decide_eq_true rfl]
        have HW8 := bx (HW7.out.trans (hb8.mono HW7.out.size))
        clear hb8
        go_wp2
        go_ret
        exact ⟨rfl, HW8.out⟩
    · have HRD := bx (rdir_any (some ⟨gc, 0, none⟩) n0 cc l1 w6 HL1.out b0 hc5 hc5' HR56.out)
      have hkk2 : (k2 == k2) = true := by simp
      by_cases hc1 : kk < m
      · have q1 : (kk : Int) < (m : Int) := by omega
        have q2 : decide (kk < m) = true := decide_eq_true hc1
        have q3 : ¬ (0 : Int) < (t : Int) := by omega
        clear hcase hc1 HT
        go_wp2_with fail
        refine HRD.out.mono ?_
        intro e7 w7 hp
        obtain ⟨A7, c7, rfl, hr7, hc7, hb7⟩ := dirpost_any hp HKL.out
        have HR7 := bx hr7
        have HR67 := bx (HR6.out.step hb7)
        have HW7 := bx (HW6.out.trans (hb7.mono HW6.out.size))
        clear hp hr7 hb7
        rw [HNM.out]
        go_wp2_with fail
        refine (sameRecs_any A6 A7 nM c6 nM c7 L2 L2 w7 HNM.out HNM.out (by omega) (by omega) HR67.out HR7.out).mono ?_
        rintro e8 w8 ⟨rfl, hb8⟩
        rw [show decide (L2 = L2) = true from decide_eq_true rfl]
        have HW8 := bx (HW7.out.trans (hb8.mono HW7.out.size))
        clear hb8
        go_wp2
        go_ret
        exact ⟨rfl, HW8.out⟩
      · have q1 : ¬ (kk : Int) < (m : Int) := by omega
        have q2 : decide (kk < m) = false := decide_eq_false hc1
        clear hcase hc1 HT
        go_wp2_with fail
        refine HRD.out.mono ?_
        intro e7 w7 hp
        obtain ⟨A7, c7, rfl, hr7, hc7, hb7⟩ := dirpost_any hp HKL.out
        have HR7 := bx hr7
        have HR67 := bx (HR6.out.step hb7)
        have HW7 := bx (HW6.out.trans (hb7.mono HW6.out.size))
        clear hp hr7 hb7
        rw [HNM.out]
        go_wp2_with fail
        refine (sameRecs_any A6 A7 nM c6 nM c7 L2 L2 w7 HNM.out HNM.out (by omega) (by omega) HR67.out HR7.out).mono ?_
        rintro e8 w8 ⟨rfl, hb8⟩
        rw [show decide (L2 = L2) = true from decide_eq_true rfl]
        have HW8 := bx (HW7.out.trans (hb8.mono HW7.out.size))
        clear hb8
        go_wp2
        go_ret
        exact ⟨rfl, HW8.out⟩
end Go.Proofs.YtokojichjliieaaDoor
