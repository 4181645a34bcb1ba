/- Walk of PathPlays. -/
import Derived.Test.YtlmcpkomjofcgaaGreatDoorQvPlS
import Derived.Test.YtlmcpkomjofcgaaGreatDoorQvPlF
import Derived.Test.YtlmcpkomjofcgaaGreatDoorPv16
import Derived.Test.YtlmcpkomjofcgaaGreatDoorQvDfC
import Derived.Test.YtlmcpkomjofcgaaGreatDoorQvDfE
import Derived.BigQuiet
namespace Go.Proofs.YtlmcpkomjofcgaaGreatDoor
open Go.RowKit
theorem df_new (w : World) (M : Nat → Prop) (hM : ∀ k, M k → k < w.heap.size) (wA : World) (bx0 : Nat) (hbx : w.heap.size = bx0) (hA : w.alloc (.cells #[.slice none 0 0, .int .i64 0, .slice none 0 0] 43) = wA) :
    DfM wA (fun k => M k ∨ k = bx0) (fun k => k = bx0) bx0 FS.new := by
  subst hbx
  subst hA
  refine ⟨.slice none 0 0, .slice none 0 0, [], [], Bk.new _ _ _, OwS.nil, OwL.nil, (fun k e => by cases e), (fun k e => by cases e), (fun k e => by cases e), rfl, rfl, (fun _ => rfl), (fun x hx => by cases hx), (fun q => rfl), rfl, (fun k e => .inr e), (fun k e => ?_), by decide⟩
  rw [show (w.alloc (.cells #[.slice none 0 0, .int .i64 0, .slice none 0 0] 43)).heap.size = w.heap.size + 1 by simp]
  rcases e with e | e
  · have := hM k e; omega
  · omega
set_option maxRecDepth 100000 in
set_option maxHeartbeats 16000000 in
theorem pathPlays_walk (mx : Int) (w : World) (hm : w.cell? ⟨0, 0, none⟩ = some (.int .i64 mx)) (A0 : Option Addr) (n0 c0 : Nat) (l0 : List Ac) (e0 : l0.length = n0) (_hc0 : n0 ≤ c0) (_hm0 : (c0 : Int) ≤ 9223372036854775807) (r0 : RS acC w w.heap.size A0 l0) (q0 : ∀ x ∈ l0, AcOk w x ∧ x.name.length ≤ 140737488351232 ∧ x.s.n ≤ 140737488351232 ∧ x.t.n ≤ 140737488351232 ∧ ∀ p ∈ x.t.l, p.length ≤ 140737488351232) (b0 : n0 ≤ 140737488351232) :
    Calls Tryz.prog 4 #[.slice A0 n0 c0] w fun e w' => e = .returned (.bool true) ∧ Below w.heap.size w w' := by
  have hz := cell_lt10 hm
  have HFX := bx (fixed22_any mx w hm hz)
  have HM := bx hm
  have HZ := bx hz
  have HR0 := bx r0
  have HE0 := bx e0
  have HQ0 := bx q0
  have HB0 := bx b0
  clear hm hz r0 e0 q0 b0
  go_enter Tryz.func4, Tryz.ntmps4
  go_wp2_with fail
  refine HFX.out.mono ?_
  rintro e w1 ⟨rfl, hb1⟩
  have HB1 := bx hb1
  clear hb1 HFX
  go_wp2_with fail
  refine (few22_any A0 n0 c0 l0 w1 HE0.out (HR0.out.step HB1.out) (fun x hx => ⟨(HQ0.out x hx).1.step HB1.out, (HQ0.out x hx).2⟩) HB0.out).mono ?_
  rintro e w2 ⟨b, rfl, hfew, hb2⟩
  have HB2 := bx (HB1.out.trans (hb2.mono HB1.out.size))
  have HFW := bx hfew
  clear hb2 hfew
  cases b with
  | false =>
    go_wp2
    go_ret
    exact ⟨rfl, HB2.out⟩
  | true =>
  have HFEW := bx (HFW.out rfl)
  clear HFW
  go_wp2_with fail
  refine (fnew_any w2 (fun _ => False) (fun _ e => e.elim)).mono ?_
  rintro e w3 ⟨gf, bR, bF, rfl, f1, f2, f3, hb3, hf⟩
  have HB3 := bx (HB2.out.trans (hb3.mono HB2.out.size))
  have hz3 := HB2.out.size
  have hML : ∀ k, (False ∨ k = gf ∨ k = bR ∨ k = bF) → w.heap.size ≤ k := fun k e => by
    rcases e with e | e | e | e
    · exact e.elim
    all_goals omega
  obtain ⟨M0, hM0⟩ : ∃ M : Nat → Prop, (fun k => False ∨ k = gf ∨ k = bR ∨ k = bF) = M := ⟨_, rfl⟩
  have hML : ∀ k, M0 k → w.heap.size ≤ k := fun k e => hML k (by rw [← hM0] at e; exact e)
  rw [hM0] at hf
  have HF := bx hf
  have HML := bx hML
  clear hb3 hf hML hM0 f1 f2 f3 hz3
  go_upto_region 5 with (fail)
  obtain ⟨bx0, hbx⟩ : ∃ g, w3.heap.size = g := ⟨_, rfl⟩
  obtain ⟨w4, hw4⟩ : ∃ W, w3.alloc (.cells #[.slice none 0 0, .int .i64 0, .slice none 0 0] 43) = W := ⟨_, rfl⟩
  have hb4 : Below w3.heap.size w3 w4 := by rw [← hw4]; exact bl_alloc (Below.refl _ _) (Nat.le_refl _) _
  obtain ⟨M1, hM1⟩ : ∃ M : Nat → Prop, (fun k => M0 k ∨ k = bx0) = M := ⟨_, rfl⟩
  obtain ⟨N1, hN1⟩ : ∃ N : Nat → Prop, (fun k => k = bx0) = N := ⟨_, rfl⟩
  have hd4 : DfM w4 M1 N1 bx0 FS.new := by rw [← hM1, ← hN1]; exact df_new w3 M0 HF.out.all w4 bx0 hbx hw4
  have hf4 : FsM w4 M1 gf bR bF FS.new := HF.out.more hb4 (fun k e => by rw [← hM1]; exact .inl e) (fun k e => by
    rw [← hM1] at e
    rcases e with e | e
    · exact .inl e
    · right; omega) hd4.all
  have hl3 := HF.out.lt
  have hz3 := HB3.out.size
  have HS0 : Bx (PlS w w4 M1 N1 gf bR bF bx0 FS.new mx (0) (0) ∧ PlQ w4 M1 N1 gf bR bF bx0 FS.new (.pointer none) (.pointer none)) := bx ⟨⟨Ch.of_below (HB3.out.trans (hb4.mono hz3)), fun k e => by
    rw [← hM1] at e
    rcases e with e | e
    · exact HML.out k e
    · omega, hf4, ⟨(cell_same (p := ⟨0, 0, none⟩) ((HB3.out.trans (hb4.mono hz3)).block 0 HZ.out)).trans HM.out, fun e => by
    have := HZ.out
    rw [← hM1] at e
    rcases e with e | e
    · have := HML.out 0 e; omega
    · omega, Nat.lt_of_lt_of_le HZ.out (HB3.out.trans (hb4.mono hz3)).size⟩, hd4, fun k e => by
    rw [← hN1] at e
    have e : k = bx0 := e
    omega, Nat.le_refl _, Nat.le_refl _⟩, .inl ⟨rfl, rfl⟩⟩
  rw [hw4, hbx]
  clear hb4 hd4 hf4 hl3 hz3 hM1 hN1 hw4 hbx HF HML
  go_wp2_with fail
  go_loopw [5, 6, 27] (fun pv qv iv wx => ∃ (j : Nat) (M N : Nat → Prop) (F : FS), j ≤ n0 ∧ iv = .int .i64 (j : Int) ∧ Bx (PlS w wx M N gf bR bF bx0 F mx (18 * j) (j) ∧ PlQ wx M N gf bR bF bx0 F pv qv)) (fun _ _ iv _ => n0 - (intOf iv).toNat)
  case atStart => exact ⟨0, M1, N1, FS.new, by omega, rfl, HS0⟩
  case round =>
    clear HS0
    obtain ⟨j, M, N, F, hj, rfl, HST⟩ := hrel
    by_cases hjn : j < n0
    · have hjI : (j : Int) < (n0 : Int) := by omega
      have hj0 : (0 : Int) ≤ (j : Int) := by omega
      have hj61 : j ≤ 60 := by have h1 := HFEW.out.1; have h2 := HE0.out; omega
      have HBW := bx HST.out.1.bl
      obtain ⟨ad, x, hA, _, hx, hc, hcs⟩ := (HR0.out.step HBW.out).at_ acCels (k := j) (by rw [HE0.out]; exact hjn)
      subst hA
      have hq := HQ0.out x (List.mem_of_getElem? hx.out)
      have hfw := HFEW.out.2 x (List.mem_of_getElem? hx.out)
      have HOK := bx (hq.1.step HBW.out)
      obtain ⟨kd, nm, ⟨As, ns, cs, ls⟩, ⟨At, nt, ct, lt⟩, nn⟩ := x
      obtain ⟨hqk, hnm, _, _, hlt⟩ := hq
      obtain ⟨hns, hnt⟩ := hfw
      dsimp only at hns hnt hnm hlt
      obtain ⟨sn, hsn⟩ : ∃ s : ByteArray, (⟨nm.toArray⟩ : ByteArray) = s := ⟨_, rfl⟩
      have HSV : Bx (strV nm = .string sn) := bx (by unfold strV; rw [hsn])
      have HSL : Bx (sn.data.toList = nm) := bx (by rw [← hsn])
      have HSS : Bx (sn.size ≤ 140737488351232) := bx (by rw [← hsn]; show nm.toArray.size ≤ _; simpa using hnm)
      have HTL : Bx (∀ p ∈ lt, p.length ≤ maxLen) := bx (fun p hp => Nat.le_trans (hlt p hp) (by decide))
      have k0 : wr.cell? (ad.add (j * 5)) = some (.int .u8 (kd : Int)) := hc _ rfl
      have k1 := hcs 0 _ rfl
      have k2 : wr.cell? ⟨(ad.add (j * 5)).block, (ad.add (j * 5)).off + (1 + 1), none⟩ = some (.slice As ns cs) := hcs 1 _ rfl
      have k3 : wr.cell? ⟨(ad.add (j * 5)).block, (ad.add (j * 5)).off + (2 + 1), none⟩ = some (.slice At nt ct) := hcs 2 _ rfl
      have k4 : wr.cell? ⟨(ad.add (j * 5)).block, (ad.add (j * 5)).off + (3 + 1), none⟩ = some (.int .i64 nn) := hcs 3 _ rfl
      rw [Nat.zero_add, HSV.out] at k1
      obtain ⟨gi, hgi⟩ : ∃ gi, wr.heap.size = gi := ⟨_, rfl⟩
      obtain ⟨w4, hw4⟩ : ∃ w4, (wr.alloc (.cells z5 46)).setRow wr.heap.size #[.int .u8 (kd : Int), .string sn, .slice As ns cs, .slice At nt ct, .int .i64 nn] = w4 := ⟨_, rfl⟩
      have hK4 : Bk w4 gi 46 #[.int .u8 (kd : Int), .string sn, .slice As ns cs, .slice At nt ct, .int .i64 nn] := by rw [← hw4, ← hgi]; exact ((Bk.new wr _ z5).setRow _)
      have hB4 : Below wr.heap.size wr w4 := by rw [← hw4]; exact bl_setRow (bl_alloc (Below.refl wr.heap.size wr) (Nat.le_refl _) _) (Nat.le_refl _) _
      have hone : (#[.int .u8 (kd : Int), .string sn, .slice As ns cs, .slice At nt ct, .int .i64 nn] : Array Value).all (·.oneCell') = true := by simp [Value.oneCell']
      have HONE := bx hone
      have HK4 := bx hK4
      have HS4 := bx (HST.out.1.below hB4)
      have HP4 := bx (HST.out.2.below hB4)
      have HOK4 := bx (HOK.out.step hB4)
      have ROWS : Bx (Rx w4 (fun k => k < w4.heap.size ∧ k ≠ bR) As (ls.map bV)) := bx (fun hn => by
        obtain ⟨ad9, e9, hb9, hc9⟩ := hqk.s.2.2.2 hn
        have hbw := HBW.out
        have hlo := HST.out.1.low bR HST.out.1.fs.own.2.1
        have hsz := HST.out.1.ch.size
        refine ⟨ad9, e9, ⟨by have := hB4.size; omega, by omega⟩, fun i u hu => (cell_same (p := ad9.add i) (by rw [blk_add]; exact (hB4.block _ (by omega)).trans (hbw.block _ hb9))).trans (hc9 i u hu)⟩)
      have HGM : Bx (¬ M gi) := bx (fun e => by have := HST.out.1.fs.all gi e; omega)
      have HNB : Bx (ns ≤ 20000 ∧ nt ≤ 20) := bx ⟨hns, hnt⟩
      have hg4 : gi < w4.heap.size := hK4.lt
      have HW4e := bx hw4
      have HGI := bx hgi
      have hd5 : (kd : Int) % 5 = 0 ∨ (kd : Int) % 5 = 1 ∨ (kd : Int) % 5 = 2 ∨ (kd : Int) % 5 = 3 ∨ (kd : Int) % 5 = 4 := by omega
      have HD5 := bx hd5
      have hkd0 : (0 : Int) ≤ (kd : Int) := by omega
      clear hw4 hK4 hB4 hone hc hcs hx hsn hgi hnm hlt hns hnt hd5 hqk HOK
      go_upto_region 11 with (refine wpList_store_row rfl 46 (.tmp 8) (.tmp 30) rfl wr.heap.size #[.int .u8 (kd : Int), .string sn, .slice As ns cs, .slice At nt ct, .int .i64 nn] rfl rfl 46 z5 (Bk.new _ _ _) info_act rfl HONE.out ?_; rw [z5_eq, HW4e.out, HGI.out])
      clear k0 k1 k2 k3 k4 HW4e HONE HGI HST HBW
      have m0 : w4.cell? ⟨gi, 0, none⟩ = some (.int .u8 (kd : Int)) := (HK4.out.cell 0).trans rfl
      have m1 : w4.cell? ⟨gi, 1, none⟩ = some (.string sn) := (HK4.out.cell 1).trans rfl
      have m2 : w4.cell? ⟨gi, 2, none⟩ = some (.slice As ns cs) := (HK4.out.cell 2).trans rfl
      have m3 : w4.cell? ⟨gi, 3, none⟩ = some (.slice At nt ct) := (HK4.out.cell 3).trans rfl
      have m4 : w4.cell? ⟨gi, 4, none⟩ = some (.int .i64 nn) := (HK4.out.cell 4).trans rfl
      have HSTR : Bx (Rx w4 (fun k => k < w4.heap.size ∧ k ≠ bR) As (ls.map bV)) := bx (fun hn => by
        obtain ⟨ad9, e9, hb9, hc9⟩ := ROWS.out hn
        exact ⟨ad9, e9, hb9, hc9⟩)
      rcases HD5.out with hd5 | hd5 | hd5 | hd5 | hd5
      · have hd := hd5
        obtain ⟨k5, F5, hP⟩ : ∃ k F', putFS F nm ls = (k, F') := ⟨_, _, rfl⟩
        have hpr := putFS_rd F nm ls
        have HP1 := bx (fput_any sn As ns cs ls w4 M gf bR bF F HS4.out.fs HOK4.out.s.1 (by have := HNB.out.1; omega) HOK4.out.s.2.2.2 (by have := HSS.out; exact Nat.le_trans this (by decide)))
        rw [HSL.out, hP] at HP1
        rw [hP] at hpr
        have HPR := bx hpr
        have HPE := bx hP
        clear hP hpr
        go_wp2_with fail
        refine HP1.out.mono ?_
        rintro e w5 ⟨rfl, hf5, hc5⟩
        have hS5 : ∀ k, OneK bR k → ThreeK gf bR bF k := fun k e => .inr (.inl e)
        have HK5 : Bx (Bk w5 gi 46 #[.int .u8 (kd : Int), .string sn, .slice As ns cs, .slice At nt ct, .int .i64 nn]) := bx (HK4.out.ch hc5 (fun e => HGM.out (by rw [show gi = bR from e]; exact HS4.out.fs.own.2.1)))
        have HDF5 := bx (HS4.out.files1 hc5 hS5)
        have hb5 : Below w.heap.size w w5 := hc5.low HS4.out.bl HS4.out.bl.size (fun k e => by rw [show k = bR from e]; exact HS4.out.low _ HS4.out.fs.own.2.1)
        have hrb5 : RB w5 w5.heap.size As ls := Rd.more (SlX.slB (SlX.step (X := fun k => k < w4.heap.size ∧ k ≠ bR) (Y := fun k => k < w5.heap.size) (x := ⟨As, ns, cs, ls⟩) ⟨HOK4.out.s.1, HOK4.out.s.2.1, HOK4.out.s.2.2.1, HSTR.out⟩ (fun k hk => hc5.same k hk.1 hk.2) (fun k hk => Nat.lt_of_lt_of_le hk.1 hc5.size)) (fun k hk => hk)).2.2.2 (Nat.le_refl _)
        have HP2 := bx (r8put_any sn As ns cs ls w5 M N bx0 F HDF5.out HOK4.out.s.1 (by have := HNB.out.1; omega) hrb5 HSS.out)
        rw [HSL.out, HPE.out] at HP2
        have HF5 := bx hf5
        have HC5 := bx hc5
        have HS5 := bx hS5
        clear hf5 hc5 hS5 HP1 hb5 hrb5 m0 m1 m2 m3 m4
        have m1 : w5.cell? ⟨gi, 1, none⟩ = some (.string sn) := (HK5.out.cell 1).trans rfl
        have m2 : w5.cell? ⟨gi, 2, none⟩ = some (.slice As ns cs) := (HK5.out.cell 2).trans rfl
        have hg5 : gi < w5.heap.size := HK5.out.lt
        go_wp2_with fail
        refine HP2.out.mono ?_
        rintro e w6 ⟨rfl, hd6⟩
        obtain ⟨M6, N6, hs6, hq6⟩ := HS4.out.files2 HF5.out HC5.out HS5.out hd6 HPR.out.1 (by rw [HPR.out.2]; exact Nat.le_succ _)
        have HS6 : Bx (PlS w w6 M6 N6 gf bR bF bx0 F5 mx (18 * (j + 1)) (j + 1)) := bx (hs6.up (by omega) (Nat.le_refl _))
        have HQ6 := bx (hq6 _ _ HP4.out)
        clear hs6 hq6 hd6 HP2 HF5 HC5 HS5 HDF5 HK5 HS4 HP4 m1 m2 hg5

        go_wp2_with fail
        obtain ⟨rdn, hrdn⟩ : ∃ r, F5.reads = r := ⟨_, rfl⟩
        have hct := (HS6).out.cnt
        rw [hrdn] at hct
        obtain ⟨cct, cgx⟩ := hct
        have HRDS : Bx (∀ nq, Calls Tryz.prog 23 #[.pointer (some ⟨gf, 0, none⟩)] (w6.drewN nq) fun e w' => e = .returned (.int .i64 (rdn : Int)) ∧ ∃ n, w' = (w6.drewN nq).drewN n) := bx (fun nq => (freads_any (w6.drewN nq) M6 gf bR bF F5 ((HS6).out.fs.below (below_drewN (Below.refl _ _) nq))).mono (fun e w' h => ⟨by rw [← hrdn]; exact h.1, 0, h.2⟩))
        have hnr : ((rdn : Int) != (rdn : Int)) = false := by simp
        clear hrdn
        go_quiet ((go_at_call 23; exact Calls.quiet_of (HRDS.out _)))
        go_wp2
        go_roundw
        case rel => first | exact ⟨j + 1, M6, N6, F5, by omega, by go_num, bx ⟨(HS6).out.below (below_drewN (Below.refl _ _) nq), (HQ6).out.below (below_drewN (Below.refl _ _) nq)⟩⟩ | exact ⟨j + 1, by omega, by go_num, M6, N6, F5, bx ⟨(HS6).out.below (below_drewN (Below.refl _ _) nq), (HQ6).out.below (below_drewN (Below.refl _ _) nq)⟩⟩
        case measure => simp [intOf]; omega
      · have hd := hd5
        obtain ⟨k5, F5, hP⟩ : ∃ k F', failFS F nn = (k, F') := ⟨_, _, rfl⟩
        have hpr := failFS_rd F nn
        have hnf := HS4.out.nf
        have HP1 := bx (ffail_any nn w4 M gf bR bF F HS4.out.fs (by omega))
        rw [hP] at HP1
        rw [hP] at hpr
        have HPR := bx hpr
        have HPE := bx hP
        have HNF : Bx (F.nf < 1000000) := bx (by omega)
        clear hP hpr hnf
        go_wp2_with fail
        refine HP1.out.mono ?_
        rintro e w5 ⟨rfl, hf5, hc5⟩
        have hS5 : ∀ k, TwoK gf bF k → ThreeK gf bR bF k := fun k e => by
          rcases e with e | e
          · exact .inl e
          · exact .inr (.inr e)
        have HK5 : Bx (Bk w5 gi 46 #[.int .u8 (kd : Int), .string sn, .slice As ns cs, .slice At nt ct, .int .i64 nn]) := bx (HK4.out.ch hc5 (fun e => HGM.out (by
          rcases e with e | e
          · rw [e]; exact HS4.out.fs.own.1
          · rw [e]; exact HS4.out.fs.own.2.2)))
        have HDF5 := bx (HS4.out.files1 hc5 hS5)
        have HP2 := bx (r8fail_any nn w5 M N bx0 F HDF5.out HNF.out)
        rw [HPE.out] at HP2
        have HF5 := bx hf5
        have HC5 := bx hc5
        have HS5 := bx hS5
        clear hf5 hc5 hS5 HP1 m0 m1 m2 m3 m4
        have m4 : w5.cell? ⟨gi, 4, none⟩ = some (.int .i64 nn) := (HK5.out.cell 4).trans rfl
        have hg5 : gi < w5.heap.size := HK5.out.lt
        go_wp2_with fail
        refine HP2.out.mono ?_
        rintro e w6 ⟨rfl, hd6⟩
        obtain ⟨M6, N6, hs6, hq6⟩ := HS4.out.files2 HF5.out HC5.out HS5.out hd6 HPR.out.1 HPR.out.2
        have HS6 : Bx (PlS w w6 M6 N6 gf bR bF bx0 F5 mx (18 * (j + 1)) (j + 1)) := bx (hs6.up (by omega) (Nat.le_refl _))
        have HQ6 := bx (hq6 _ _ HP4.out)
        clear hs6 hq6 hd6 HP2 HF5 HC5 HS5 HDF5 HK5 HS4 HP4 m4 hg5

        go_wp2_with fail
        obtain ⟨rdn, hrdn⟩ : ∃ r, F5.reads = r := ⟨_, rfl⟩
        have hct := (HS6).out.cnt
        rw [hrdn] at hct
        obtain ⟨cct, cgx⟩ := hct
        have HRDS : Bx (∀ nq, Calls Tryz.prog 23 #[.pointer (some ⟨gf, 0, none⟩)] (w6.drewN nq) fun e w' => e = .returned (.int .i64 (rdn : Int)) ∧ ∃ n, w' = (w6.drewN nq).drewN n) := bx (fun nq => (freads_any (w6.drewN nq) M6 gf bR bF F5 ((HS6).out.fs.below (below_drewN (Below.refl _ _) nq))).mono (fun e w' h => ⟨by rw [← hrdn]; exact h.1, 0, h.2⟩))
        have hnr : ((rdn : Int) != (rdn : Int)) = false := by simp
        clear hrdn
        go_quiet ((go_at_call 23; exact Calls.quiet_of (HRDS.out _)))
        go_wp2
        go_roundw
        case rel => first | exact ⟨j + 1, M6, N6, F5, by omega, by go_num, bx ⟨(HS6).out.below (below_drewN (Below.refl _ _) nq), (HQ6).out.below (below_drewN (Below.refl _ _) nq)⟩⟩ | exact ⟨j + 1, by omega, by go_num, M6, N6, F5, bx ⟨(HS6).out.below (below_drewN (Below.refl _ _) nq), (HQ6).out.below (below_drewN (Below.refl _ _) nq)⟩⟩
        case measure => simp [intOf]; omega
      · have hd := hd5
        rcases HP4.out with ⟨rfl, rfl⟩ | ⟨gp, bK, bC, gq, bT, bD, nms, K, rfl, rfl, hpp⟩
        · have HS6 : Bx (PlS w w4 M N gf bR bF bx0 F mx (18 * (j + 1)) (j + 1)) := bx (HS4.out.up (by omega) (by omega))
          have HQ6 : Bx (PlQ w4 M N gf bR bF bx0 F (.pointer none) (.pointer none)) := bx (.inl ⟨rfl, rfl⟩)
          go_wp2
          go_roundw
          case rel => first | exact ⟨j + 1, M, N, F, by omega, by go_num, bx ⟨HS6.out, HQ6.out⟩⟩ | exact ⟨j + 1, by omega, by go_num, M, N, F, bx ⟨HS6.out, HQ6.out⟩⟩
          case measure => simp [intOf]; omega
        · have HPP := bx hpp
          clear hpp HP4
          have hrd := (HS4).out.rd
          obtain ⟨R1, hR⟩ : ∃ R, amongP nms sn.data.toList nms.length 0 F K = R := ⟨_, rfl⟩
          have hrr : R1.2.1.reads ≤ F.reads + 16 := by
            have h1 := among_reads (nms := nms) (nm := sn.data.toList) nms.length 0 F K
            rw [hR] at h1
            have h2 := (HPP).out.pt.len.2
            omega
          have hrn : R1.2.1.nf = F.nf := by rw [← hR]; exact among_nf nms.length 0 F K
          have HL1 := bx (pfind_any sn w4 M gf bR bF gp bK bC nms F K mx (PlP.ps (HS4).out (HPP).out) (Nat.le_trans HSS.out (by decide)) (by omega))
          rw [hR] at HL1
          have HRE := bx hR
          have HRR := bx (And.intro hrr hrn)
          have HRD9 : Bx (F.reads + 40 < 1000000) := bx (by omega)
          clear hR hrr hrn hrd
          go_wp2_with fail
          refine HL1.out.mono ?_
          intro e w5 hp
          obtain ⟨ha, hps, hc⟩ := hp
          obtain ⟨A1, n1, c1, rfl, hl, hs, ho⟩ := ans_form ha
          have HXa : Bx (Std w5 M ⟨A1, n1, c1, okl R1.1⟩) := bx (slX_own (ho.low (by exact Nat.le_refl _)) (fun k hk => by exact (HS4).out.fs.all k hk))
          have HLa1 := bx hl.out
          have HSa1 : Bx ((n1 : Int) ≤ 140737488355328) := bx (by have := hs.out; omega)
          have hdd := (HS4).out.find1 (HPP).out hc
          have HDD := bx hdd
          have HPS := bx hps
          have HCC := bx hc
          have HK5 : Bx (Bk w5 gi 46 #[.int .u8 (kd : Int), .string sn, .slice As ns cs, .slice At nt ct, .int .i64 nn]) := bx ((HK4).out.ch hc (fun e => HGM.out (path_sub (PlP.ps (HS4).out (HPP).out) gi e)))
          have HL2 := bx (r22find_any sn w5 M N gq bx0 bT bD nms F K HDD.out.1 HDD.out.2 HRD9.out)
          rw [HRE.out] at HL2
          clear ha hps hc hl hs ho hdd HL1
          have m1 : w5.cell? ⟨gi, 1, none⟩ = some (.string sn) := (HK5.out.cell 1).trans rfl
          have hg5 : gi < w5.heap.size := HK5.out.lt
          go_wp2_with fail
          refine HL2.out.mono ?_
          intro e w6 hp
          obtain ⟨ha, hf6, hd6, hc⟩ := hp
          obtain ⟨B1, y1, d1, rfl, hl, hs, ho⟩ := ans_form ha
          have HXb : Bx (Std w6 M ⟨B1, y1, d1, okl R1.1⟩) := bx (slX_own (ho.low (by exact Nat.le_refl _)) (fun k hk => by exact HPS.out.pt.all k hk))
          have HLb1 := bx hl.out
          have HSb1 : Bx ((y1 : Int) ≤ 140737488355328) := bx (by have := hs.out; omega)
          have HXa := bx (HXa.out.ch hc ((HS4).out.lk (HPP).out))
          have HK6 : Bx (Bk w6 gi 46 #[.int .u8 (kd : Int), .string sn, .slice As ns cs, .slice At nt ct, .int .i64 nn]) := bx (HK5.out.ch hc (fun e => HGM.out ((HS4).out.lk (HPP).out gi e)))
          obtain ⟨hs6, hp6⟩ := (HS4).out.find2 (HPP).out HPS.out HCC.out hf6 hd6 hc HRR.out.1 HRR.out.2
          obtain ⟨F6, hF6⟩ : ∃ X, R1.2.1 = X := ⟨_, rfl⟩
          obtain ⟨K6, hK6⟩ : ∃ X, R1.2.2 = X := ⟨_, rfl⟩
          rw [hF6] at hs6 hp6
          rw [hK6] at hp6
          have HS6 : Bx (PlS w w6 M N gf bR bF bx0 F6 mx (18 * j + 16) (j)) := bx hs6
          have HP6 : Bx (PlP w6 M N gf bR bF bx0 F6 gp bK bC gq bT bD nms K6) := bx hp6
          clear ha hf6 hd6 hc hl hs ho hs6 hp6 hF6 hK6 HL2 HDD HPS HCC HRR HRE HRD9 HK5 m1 hg5
          clear m0 m1 m2 m3 m4
          have m0 : w6.cell? ⟨gi, 0, none⟩ = some (.int .u8 (kd : Int)) := (HK6.out.cell 0).trans rfl
          have hg6 : gi < w6.heap.size := HK6.out.lt
          obtain ⟨ek, hek⟩ : ∃ ek, ecd R1.1 = ek := ⟨_, rfl⟩
          rw [hek]
          have hk2 : (ek != ek) = false := by simp
          clear hek
          go_wp2_with fail
          refine (same_any A1 B1 n1 c1 y1 d1 w6 (okl R1.1) (okl R1.1) (HLa1).out (HLb1).out (HSa1).out (HSb1).out (Std.rb HXa.out) (Std.rb HXb.out)).mono ?_
          rintro e w7 ⟨rfl, hb7⟩
          rw [dec_self10]
          have HS7 := bx ((HS6).out.below hb7)
          have HP7 := bx ((HP6).out.below hb7)
          clear hb7 hk2 HXa HXb
          go_wp2_with fail
          refine (pknown_any w7 M gf bR bF gp bK bC nms F6 K6 mx (PlP.ps HS7.out HP7.out)).mono ?_
          rintro e w8 ⟨v8, rfl, ho8, hb8⟩
          obtain ⟨A8, n8, c8, rfl, hn8, _⟩ := OwL.sl ho8
          have HN8 : Bx ((knP nms K6 nms.length).length = n8) := bx hn8.out.symm
          have HO8 := bx (OwL.rl ho8)
          have HS8 := bx (HS7.out.below hb8)
          have HP8 := bx (HP7.out.below hb8)
          have HKL : Bx (n8 ≤ 8) := bx (by have h1 := knP_len nms K6 nms.length; have h2 := HN8.out; have h3 := HP8.out.pt.len.2; omega)
          clear ho8 hb8 hn8 HS7 HP7
          go_wp2_with fail
          refine (r22known_any w8 M N gq bx0 bT bD nms K6 HP8.out.dp).mono ?_
          rintro e w9 ⟨v9, rfl, ho9, hb9⟩
          obtain ⟨A9, n9, c9, rfl, hn9, _⟩ := OwL.sl ho9
          have HN9 : Bx ((knP nms K6 nms.length).length = n9) := bx hn9.out.symm
          have HO9 := bx (OwL.rl ho9)
          have HO8 := bx ((HO8.out.below hb9 (Nat.le_refl _)).more hb9.size)
          have HS9 := bx (HS8.out.below hb9)
          have HP9 := bx (HP8.out.below hb9)
          clear ho9 hb9 hn9 HS8 HP8
          go_wp2_with fail
          refine (sameTexts_any A8 A9 n8 n9 c8 c9 (knP nms K6 nms.length) (knP nms K6 nms.length) w9 HN8.out HN9.out (by have := HKL.out; omega) (by have h1 := HN8.out; have h2 := HN9.out; have := HKL.out; omega) HO8.out HO9.out).mono ?_
          rintro e wA ⟨rfl, hbA⟩
          rw [dec_self11]
          have HSA : Bx (PlS w wA M N gf bR bF bx0 F6 mx (18 * (j + 1)) (j + 1)) := bx ((HS9.out.below hbA).up (by omega) (by omega))
          have HQA : Bx (PlQ wA M N gf bR bF bx0 F6 (.pointer (some ⟨gp, 0, none⟩)) (.pointer (some ⟨gq, 0, none⟩))) := bx (.inr ⟨gp, bK, bC, gq, bT, bD, nms, K6, rfl, rfl, HP9.out.below hbA⟩)
          clear hbA HS9 HP9 HO8 HO9 HN8 HN9 HKL
          go_wp2_with fail
          obtain ⟨rdn, hrdn⟩ : ∃ r, F6.reads = r := ⟨_, rfl⟩
          have hct := (HSA).out.cnt
          rw [hrdn] at hct
          obtain ⟨cct, cgx⟩ := hct
          have HRDS : Bx (∀ nq, Calls Tryz.prog 23 #[.pointer (some ⟨gf, 0, none⟩)] (wA.drewN nq) fun e w' => e = .returned (.int .i64 (rdn : Int)) ∧ ∃ n, w' = (wA.drewN nq).drewN n) := bx (fun nq => (freads_any (wA.drewN nq) M gf bR bF F6 ((HSA).out.fs.below (below_drewN (Below.refl _ _) nq))).mono (fun e w' h => ⟨by rw [← hrdn]; exact h.1, 0, h.2⟩))
          have hnr : ((rdn : Int) != (rdn : Int)) = false := by simp
          clear hrdn
          go_quiet ((go_at_call 23; exact Calls.quiet_of (HRDS.out _)))
          go_wp2
          go_roundw
          case rel => first | exact ⟨j + 1, M, N, F6, by omega, by go_num, bx ⟨(HSA).out.below (below_drewN (Below.refl _ _) nq), (HQA).out.below (below_drewN (Below.refl _ _) nq)⟩⟩ | exact ⟨j + 1, by omega, by go_num, M, N, F6, bx ⟨(HSA).out.below (below_drewN (Below.refl _ _) nq), (HQA).out.below (below_drewN (Below.refl _ _) nq)⟩⟩
          case measure => simp [intOf]; omega
      · have hd := hd5
        rcases HP4.out with ⟨rfl, rfl⟩ | ⟨gp, bK, bC, gq, bT, bD, nms, K, rfl, rfl, hpp⟩
        · have HS6 : Bx (PlS w w4 M N gf bR bF bx0 F mx (18 * (j + 1)) (j + 1)) := bx (HS4.out.up (by omega) (by omega))
          have HQ6 : Bx (PlQ w4 M N gf bR bF bx0 F (.pointer none) (.pointer none)) := bx (.inl ⟨rfl, rfl⟩)
          go_wp2
          go_roundw
          case rel => first | exact ⟨j + 1, M, N, F, by omega, by go_num, bx ⟨HS6.out, HQ6.out⟩⟩ | exact ⟨j + 1, by omega, by go_num, M, N, F, bx ⟨HS6.out, HQ6.out⟩⟩
          case measure => simp [intOf]; omega
        · have HPP := bx hpp
          clear hpp HP4
          have hrd := (HS4).out.rd
          obtain ⟨R1, hR⟩ : ∃ R, amongP nms sn.data.toList nms.length 0 F K = R := ⟨_, rfl⟩
          have hrr : R1.2.1.reads ≤ F.reads + 16 := by
            have h1 := among_reads (nms := nms) (nm := sn.data.toList) nms.length 0 F K
            rw [hR] at h1
            have h2 := (HPP).out.pt.len.2
            omega
          have hrn : R1.2.1.nf = F.nf := by rw [← hR]; exact among_nf nms.length 0 F K
          have HL1 := bx (pfind_any sn w4 M gf bR bF gp bK bC nms F K mx (PlP.ps (HS4).out (HPP).out) (Nat.le_trans HSS.out (by decide)) (by omega))
          rw [hR] at HL1
          have HRE := bx hR
          have HRR := bx (And.intro hrr hrn)
          have HRD9 : Bx (F.reads + 40 < 1000000) := bx (by omega)
          clear hR hrr hrn hrd
          go_wp2_with fail
          refine HL1.out.mono ?_
          intro e w5 hp
          obtain ⟨ha, hps, hc⟩ := hp
          obtain ⟨A1, n1, c1, rfl, hl, hs, ho⟩ := ans_form ha
          have HXa : Bx (Std w5 M ⟨A1, n1, c1, okl R1.1⟩) := bx (slX_own (ho.low (by exact Nat.le_refl _)) (fun k hk => by exact (HS4).out.fs.all k hk))
          have HLa1 := bx hl.out
          have HSa1 : Bx ((n1 : Int) ≤ 140737488355328) := bx (by have := hs.out; omega)
          have hdd := (HS4).out.find1 (HPP).out hc
          have HDD := bx hdd
          have HPS := bx hps
          have HCC := bx hc
          have HK5 : Bx (Bk w5 gi 46 #[.int .u8 (kd : Int), .string sn, .slice As ns cs, .slice At nt ct, .int .i64 nn]) := bx ((HK4).out.ch hc (fun e => HGM.out (path_sub (PlP.ps (HS4).out (HPP).out) gi e)))
          have HL2 := bx (r22find_any sn w5 M N gq bx0 bT bD nms F K HDD.out.1 HDD.out.2 HRD9.out)
          rw [HRE.out] at HL2
          clear ha hps hc hl hs ho hdd HL1
          have m1 : w5.cell? ⟨gi, 1, none⟩ = some (.string sn) := (HK5.out.cell 1).trans rfl
          have hg5 : gi < w5.heap.size := HK5.out.lt
          go_wp2_with fail
          refine HL2.out.mono ?_
          intro e w6 hp
          obtain ⟨ha, hf6, hd6, hc⟩ := hp
          obtain ⟨B1, y1, d1, rfl, hl, hs, ho⟩ := ans_form ha
          have HXb : Bx (Std w6 M ⟨B1, y1, d1, okl R1.1⟩) := bx (slX_own (ho.low (by exact Nat.le_refl _)) (fun k hk => by exact HPS.out.pt.all k hk))
          have HLb1 := bx hl.out
          have HSb1 : Bx ((y1 : Int) ≤ 140737488355328) := bx (by have := hs.out; omega)
          have HXa := bx (HXa.out.ch hc ((HS4).out.lk (HPP).out))
          have HK6 : Bx (Bk w6 gi 46 #[.int .u8 (kd : Int), .string sn, .slice As ns cs, .slice At nt ct, .int .i64 nn]) := bx (HK5.out.ch hc (fun e => HGM.out ((HS4).out.lk (HPP).out gi e)))
          obtain ⟨hs6, hp6⟩ := (HS4).out.find2 (HPP).out HPS.out HCC.out hf6 hd6 hc HRR.out.1 HRR.out.2
          obtain ⟨F6, hF6⟩ : ∃ X, R1.2.1 = X := ⟨_, rfl⟩
          obtain ⟨K6, hK6⟩ : ∃ X, R1.2.2 = X := ⟨_, rfl⟩
          rw [hF6] at hs6 hp6
          rw [hK6] at hp6
          have HS6 : Bx (PlS w w6 M N gf bR bF bx0 F6 mx (18 * j + 16) (j)) := bx hs6
          have HP6 : Bx (PlP w6 M N gf bR bF bx0 F6 gp bK bC gq bT bD nms K6) := bx hp6
          clear ha hf6 hd6 hc hl hs ho hs6 hp6 hF6 hK6 HL2 HDD HPS HCC HRR HRE HRD9 HK5 m1 hg5
          clear HXa HXb m0 m1 m2 m3 m4
          have m0 : w6.cell? ⟨gi, 0, none⟩ = some (.int .u8 (kd : Int)) := (HK6.out.cell 0).trans rfl
          have m1 : w6.cell? ⟨gi, 1, none⟩ = some (.string sn) := (HK6.out.cell 1).trans rfl
          have hg6 : gi < w6.heap.size := HK6.out.lt
          have hrd := (HS6).out.rd
          obtain ⟨R2, hR⟩ : ∃ R, amongP nms sn.data.toList 1 0 F6 K6 = R := ⟨_, rfl⟩
          have hrr : R2.2.1.reads ≤ F6.reads + 2 := by
            have h1 := among_reads (nms := nms) (nm := sn.data.toList) 1 0 F6 K6
            rw [hR] at h1
            have h2 := (HP6).out.pt.len.2
            omega
          have hrn : R2.2.1.nf = F6.nf := by rw [← hR]; exact among_nf 1 0 F6 K6
          have HL1 := bx (pfirst_any sn w6 M gf bR bF gp bK bC nms F6 K6 mx (PlP.ps (HS6).out (HP6).out) (Nat.le_trans HSS.out (by decide)) (by omega))
          rw [hR] at HL1
          have HRE := bx hR
          have HRR := bx (And.intro hrr hrn)
          have HRD9 : Bx (F6.reads + 40 < 1000000) := bx (by omega)
          clear hR hrr hrn hrd
          go_wp2_with fail
          refine HL1.out.mono ?_
          intro e w7 hp
          obtain ⟨ha, hps, hc⟩ := hp
          obtain ⟨A2, n2, c2, rfl, hl, hs, ho⟩ := ans_form ha
          have HXa : Bx (Std w7 M ⟨A2, n2, c2, okl R2.1⟩) := bx (slX_own (ho.low (by exact Nat.le_refl _)) (fun k hk => by exact (HS6).out.fs.all k hk))
          have HLa2 := bx hl.out
          have HSa2 : Bx ((n2 : Int) ≤ 140737488355328) := bx (by have := hs.out; omega)
          have hdd := (HS6).out.find1 (HP6).out hc
          have HDD := bx hdd
          have HPS := bx hps
          have HCC := bx hc
          have HK5 : Bx (Bk w7 gi 46 #[.int .u8 (kd : Int), .string sn, .slice As ns cs, .slice At nt ct, .int .i64 nn]) := bx ((HK6).out.ch hc (fun e => HGM.out (path_sub (PlP.ps (HS6).out (HP6).out) gi e)))
          have HL2 := bx (r22first_any sn w7 M N gq bx0 bT bD nms F6 K6 HDD.out.1 HDD.out.2 HRD9.out)
          rw [HRE.out] at HL2
          clear ha hps hc hl hs ho hdd HL1
          have m1 : w7.cell? ⟨gi, 1, none⟩ = some (.string sn) := (HK5.out.cell 1).trans rfl
          have hg5 : gi < w7.heap.size := HK5.out.lt
          go_wp2_with fail
          refine HL2.out.mono ?_
          intro e w8 hp
          obtain ⟨ha, hf6, hd6, hc⟩ := hp
          obtain ⟨B2, y2, d2, rfl, hl, hs, ho⟩ := ans_form ha
          have HXb : Bx (Std w8 M ⟨B2, y2, d2, okl R2.1⟩) := bx (slX_own (ho.low (by exact Nat.le_refl _)) (fun k hk => by exact HPS.out.pt.all k hk))
          have HLb2 := bx hl.out
          have HSb2 : Bx ((y2 : Int) ≤ 140737488355328) := bx (by have := hs.out; omega)
          have HXa := bx (HXa.out.ch hc ((HS6).out.lk (HP6).out))
          have HK6 : Bx (Bk w8 gi 46 #[.int .u8 (kd : Int), .string sn, .slice As ns cs, .slice At nt ct, .int .i64 nn]) := bx (HK5.out.ch hc (fun e => HGM.out ((HS6).out.lk (HP6).out gi e)))
          obtain ⟨hs6, hp6⟩ := (HS6).out.find2 (HP6).out HPS.out HCC.out hf6 hd6 hc HRR.out.1 HRR.out.2
          obtain ⟨F8, hF8⟩ : ∃ X, R2.2.1 = X := ⟨_, rfl⟩
          obtain ⟨K8, hK8⟩ : ∃ X, R2.2.2 = X := ⟨_, rfl⟩
          rw [hF8] at hs6 hp6
          rw [hK8] at hp6
          have HS8 : Bx (PlS w w8 M N gf bR bF bx0 F8 mx (18 * j + 16 + 2) (j)) := bx hs6
          have HP8 : Bx (PlP w8 M N gf bR bF bx0 F8 gp bK bC gq bT bD nms K8) := bx hp6
          clear ha hf6 hd6 hc hl hs ho hs6 hp6 hF8 hK8 HL2 HDD HPS HCC HRR HRE HRD9 HK5 m1 hg5
          obtain ⟨ek, hek⟩ : ∃ ek, ecd R2.1 = ek := ⟨_, rfl⟩
          rw [hek]
          have hk2 : (ek != ek) = false := by simp
          clear hek
          go_wp2_with fail
          refine (same_any A2 B2 n2 c2 y2 d2 w8 (okl R2.1) (okl R2.1) (HLa2).out (HLb2).out (HSa2).out (HSb2).out (Std.rb HXa.out) (Std.rb HXb.out)).mono ?_
          rintro e w7 ⟨rfl, hb7⟩
          rw [dec_self10]
          have HS7 := bx ((HS8).out.below hb7)
          have HP7 := bx ((HP8).out.below hb7)
          clear hb7 hk2 HXa HXb
          go_wp2_with fail
          refine (pknown_any w7 M gf bR bF gp bK bC nms F8 K8 mx (PlP.ps HS7.out HP7.out)).mono ?_
          rintro e w8 ⟨v8, rfl, ho8, hb8⟩
          obtain ⟨A8, n8, c8, rfl, hn8, _⟩ := OwL.sl ho8
          have HN8 : Bx ((knP nms K8 nms.length).length = n8) := bx hn8.out.symm
          have HO8 := bx (OwL.rl ho8)
          have HS8 := bx (HS7.out.below hb8)
          have HP8 := bx (HP7.out.below hb8)
          have HKL : Bx (n8 ≤ 8) := bx (by have h1 := knP_len nms K8 nms.length; have h2 := HN8.out; have h3 := HP8.out.pt.len.2; omega)
          clear ho8 hb8 hn8 HS7 HP7
          go_wp2_with fail
          refine (r22known_any w8 M N gq bx0 bT bD nms K8 HP8.out.dp).mono ?_
          rintro e w9 ⟨v9, rfl, ho9, hb9⟩
          obtain ⟨A9, n9, c9, rfl, hn9, _⟩ := OwL.sl ho9
          have HN9 : Bx ((knP nms K8 nms.length).length = n9) := bx hn9.out.symm
          have HO9 := bx (OwL.rl ho9)
          have HO8 := bx ((HO8.out.below hb9 (Nat.le_refl _)).more hb9.size)
          have HS9 := bx (HS8.out.below hb9)
          have HP9 := bx (HP8.out.below hb9)
          clear ho9 hb9 hn9 HS8 HP8
          go_wp2_with fail
          refine (sameTexts_any A8 A9 n8 n9 c8 c9 (knP nms K8 nms.length) (knP nms K8 nms.length) w9 HN8.out HN9.out (by have := HKL.out; omega) (by have h1 := HN8.out; have h2 := HN9.out; have := HKL.out; omega) HO8.out HO9.out).mono ?_
          rintro e wA ⟨rfl, hbA⟩
          rw [dec_self11]
          have HSA : Bx (PlS w wA M N gf bR bF bx0 F8 mx (18 * (j + 1)) (j + 1)) := bx ((HS9.out.below hbA).up (by omega) (by omega))
          have HQA : Bx (PlQ wA M N gf bR bF bx0 F8 (.pointer (some ⟨gp, 0, none⟩)) (.pointer (some ⟨gq, 0, none⟩))) := bx (.inr ⟨gp, bK, bC, gq, bT, bD, nms, K8, rfl, rfl, HP9.out.below hbA⟩)
          clear hbA HS9 HP9 HO8 HO9 HN8 HN9 HKL
          go_wp2_with fail
          obtain ⟨rdn, hrdn⟩ : ∃ r, F8.reads = r := ⟨_, rfl⟩
          have hct := (HSA).out.cnt
          rw [hrdn] at hct
          obtain ⟨cct, cgx⟩ := hct
          have HRDS : Bx (∀ nq, Calls Tryz.prog 23 #[.pointer (some ⟨gf, 0, none⟩)] (wA.drewN nq) fun e w' => e = .returned (.int .i64 (rdn : Int)) ∧ ∃ n, w' = (wA.drewN nq).drewN n) := bx (fun nq => (freads_any (wA.drewN nq) M gf bR bF F8 ((HSA).out.fs.below (below_drewN (Below.refl _ _) nq))).mono (fun e w' h => ⟨by rw [← hrdn]; exact h.1, 0, h.2⟩))
          have hnr : ((rdn : Int) != (rdn : Int)) = false := by simp
          clear hrdn
          go_quiet ((go_at_call 23; exact Calls.quiet_of (HRDS.out _)))
          go_wp2
          go_roundw
          case rel => first | exact ⟨j + 1, M, N, F8, by omega, by go_num, bx ⟨(HSA).out.below (below_drewN (Below.refl _ _) nq), (HQA).out.below (below_drewN (Below.refl _ _) nq)⟩⟩ | exact ⟨j + 1, by omega, by go_num, M, N, F8, bx ⟨(HSA).out.below (below_drewN (Below.refl _ _) nq), (HQA).out.below (below_drewN (Below.refl _ _) nq)⟩⟩
          case measure => simp [intOf]; omega
      · have hd := hd5
        by_cases hn18 : 1 ≤ nt ∧ nt ≤ 8
        · obtain ⟨hn1, hn8⟩ := hn18
          have HNW := bx (ptnew_any At nt ct lt w4 M gf bR bF F mx HS4.out.fs HS4.out.zero HOK4.out.t.1 hn1 hn8 HOK4.out.t.2.2.2 HTL.out)
          have HN18 : Bx (1 ≤ nt ∧ nt ≤ 8) := bx ⟨hn1, hn8⟩
          clear hn1 hn8
          go_wp2_with fail
          refine HNW.out.mono ?_
          rintro e w5 ⟨gp, bK, bC, rfl, p1, p2, p3, hb5, hps5⟩
          obtain ⟨M5, hMM⟩ : ∃ M' : Nat → Prop, (fun k => M k ∨ k = gp ∨ k = bK ∨ k = bC) = M' := ⟨_, rfl⟩
          have hps5 : PsM w5 M5 gf bR bF gp bK bC lt F kn0 mx := by rw [← hMM]; exact hps5
          have HM5 : Bx (∀ k, M5 k ↔ M k ∨ k = gp ∨ k = bK ∨ k = bC) := bx (fun k => by rw [← hMM])
          have HLO5 : Bx (w4.heap.size ≤ gp ∧ w4.heap.size ≤ bK ∧ w4.heap.size ≤ bC) := bx ⟨p1, p2, p3⟩
          have HDF5 := bx (HS4.out.made1 hb5 HM5.out HLO5.out hps5.pt.all)
          have HNX := bx (r22new_any At nt ct lt w5 M5 N bx0 F HDF5.out HOK4.out.t.1 HN18.out.1 HN18.out.2 ((HOK4.out.t.2.2.2.below hb5 (Nat.le_refl _)).more hb5.size) HTL.out)
          have HK5 : Bx (Bk w5 gi 46 #[.int .u8 (kd : Int), .string sn, .slice As ns cs, .slice At nt ct, .int .i64 nn]) := bx ((hb5.block gi hg4).trans HK4.out)
          have HPS5 := bx hps5
          have HB5 := bx hb5
          clear hb5 hps5 hMM p1 p2 p3 HNW m0 m1 m2 m3 m4
          have m3 : w5.cell? ⟨gi, 3, none⟩ = some (.slice At nt ct) := (HK5.out.cell 3).trans rfl
          have hg5 : gi < w5.heap.size := HK5.out.lt
          go_wp2_with fail
          refine HNX.out.mono ?_
          rintro e w6 ⟨gq, bT, bD, rfl, p1, p2, p3, hb6, hd6⟩
          obtain ⟨M6, hMM⟩ : ∃ M' : Nat → Prop, (fun k => M5 k ∨ k = gq ∨ k = bT ∨ k = bD) = M' := ⟨_, rfl⟩
          have hd6 : DpM w6 M6 N gq bx0 bT bD lt kn0 := by rw [← hMM]; exact hd6
          obtain ⟨hs6, hp6⟩ := HS4.out.made2 HB5.out HM5.out HLO5.out HPS5.out hb6 (M2 := M6) (fun k => by rw [← hMM]) ⟨p1, p2, p3⟩ hd6
          have HS6 : Bx (PlS w w6 M6 N gf bR bF bx0 F mx (18 * (j + 1)) (j + 1)) := bx (hs6.up (by omega) (by omega))
          have HQ6 : Bx (PlQ w6 M6 N gf bR bF bx0 F (.pointer (some ⟨gp, 0, none⟩)) (.pointer (some ⟨gq, 0, none⟩))) := bx (.inr ⟨gp, bK, bC, gq, bT, bD, lt, kn0, rfl, rfl, hp6⟩)
          clear hs6 hp6 hd6 hb6 hMM p1 p2 p3 HNX HPS5 HB5 HDF5 HK5 HS4 HP4 m3 hg5
          go_wp2_with fail
          obtain ⟨rdn, hrdn⟩ : ∃ r, F.reads = r := ⟨_, rfl⟩
          have hct := (HS6).out.cnt
          rw [hrdn] at hct
          obtain ⟨cct, cgx⟩ := hct
          have HRDS : Bx (∀ nq, Calls Tryz.prog 23 #[.pointer (some ⟨gf, 0, none⟩)] (w6.drewN nq) fun e w' => e = .returned (.int .i64 (rdn : Int)) ∧ ∃ n, w' = (w6.drewN nq).drewN n) := bx (fun nq => (freads_any (w6.drewN nq) M6 gf bR bF F ((HS6).out.fs.below (below_drewN (Below.refl _ _) nq))).mono (fun e w' h => ⟨by rw [← hrdn]; exact h.1, 0, h.2⟩))
          have hnr : ((rdn : Int) != (rdn : Int)) = false := by simp
          clear hrdn
          go_quiet ((go_at_call 23; exact Calls.quiet_of (HRDS.out _)))
          go_wp2
          go_roundw
          case rel => first | exact ⟨j + 1, M6, N, F, by omega, by go_num, bx ⟨(HS6).out.below (below_drewN (Below.refl _ _) nq), (HQ6).out.below (below_drewN (Below.refl _ _) nq)⟩⟩ | exact ⟨j + 1, by omega, by go_num, M6, N, F, bx ⟨(HS6).out.below (below_drewN (Below.refl _ _) nq), (HQ6).out.below (below_drewN (Below.refl _ _) nq)⟩⟩
          case measure => simp [intOf]; omega
        · have hno : nt = 0 ∨ (8 < nt ∧ nt ≤ 1000000) := by have := HNB.out.2; omega
          have hno2 : nt = 0 ∨ (8 < nt ∧ nt ≤ 140737488351232) := by have := HNB.out.2; omega
          have HNW := bx (ptnew_no (some ⟨gf, 0, none⟩) At nt ct w4 (.inr hno))
          have HNX := bx (r22new_no (.pointer (some ⟨bx0, 0, none⟩)) At nt ct w4 hno2)
          clear hno hno2 hn18
          go_wp2_with fail
          refine HNW.out.mono ?_
          rintro e w5 ⟨rfl, hw⟩
          obtain rfl : w4 = w5 := hw.symm
          go_wp2_with fail
          refine HNX.out.mono ?_
          rintro e w5 ⟨rfl, hw⟩
          obtain rfl : w4 = w5 := hw.symm
          have HS6 : Bx (PlS w w4 M N gf bR bF bx0 F mx (18 * (j + 1)) (j + 1)) := bx (HS4.out.up (by omega) (by omega))
          go_wp2_with fail
          obtain ⟨rdn, hrdn⟩ : ∃ r, F.reads = r := ⟨_, rfl⟩
          have hct := (HS6).out.cnt
          rw [hrdn] at hct
          obtain ⟨cct, cgx⟩ := hct
          have HRDS : Bx (∀ nq, Calls Tryz.prog 23 #[.pointer (some ⟨gf, 0, none⟩)] (w4.drewN nq) fun e w' => e = .returned (.int .i64 (rdn : Int)) ∧ ∃ n, w' = (w4.drewN nq).drewN n) := bx (fun nq => (freads_any (w4.drewN nq) M gf bR bF F ((HS6).out.fs.below (below_drewN (Below.refl _ _) nq))).mono (fun e w' h => ⟨by rw [← hrdn]; exact h.1, 0, h.2⟩))
          have hnr : ((rdn : Int) != (rdn : Int)) = false := by simp
          clear hrdn
          go_quiet ((go_at_call 23; exact Calls.quiet_of (HRDS.out _)))
          go_wp2
          go_roundw
          case rel => first | exact ⟨j + 1, M, N, F, by omega, by go_num, bx ⟨(HS6).out.below (below_drewN (Below.refl _ _) nq), (HP4).out.below (below_drewN (Below.refl _ _) nq)⟩⟩ | exact ⟨j + 1, by omega, by go_num, M, N, F, bx ⟨(HS6).out.below (below_drewN (Below.refl _ _) nq), (HP4).out.below (below_drewN (Below.refl _ _) nq)⟩⟩
          case measure => simp [intOf]; omega
    · obtain rfl : j = n0 := by omega
      have hjI : ¬ (j : Int) < (j : Int) := by omega
      go_wp2
      go_ret
      exact ⟨rfl, HST.out.1.bl⟩
end Go.Proofs.YtlmcpkomjofcgaaGreatDoor
