/- Contract: samovarref14.Same. -/
import Derived.Test.YtdioijhmmmnbgaaQiImL
import Derived.Test.YtdioijhmmmnbgaaQiImJ
namespace Go.Proofs.Ytdioijhmmmnbgaa
open Go.RowKit
/-- All sizes of a class file are such as memory has. -/
def ImSz (x : ImE) : Prop := (∀ z ∈ x.fs, z.n ≤ 140737488355328 ∧ ∀ y ∈ z.L, y.s.n ≤ 140737488355328) ∧ (∀ z ∈ x.ms, z.n ≤ 140737488355328 ∧ ∀ y ∈ z.L, y.s.n ≤ 140737488355328) ∧ (∀ y ∈ x.as_, y.s.n ≤ 140737488355328) ∧
  (x.pn : Int) ≤ 140737488355328 ∧ (x.fn : Int) ≤ 140737488355328 ∧ (x.mn : Int) ≤ 140737488355328 ∧ (x.an : Int) ≤ 140737488355328 ∧ (x.i_n : Int) ≤ 140737488355328
set_option maxRecDepth 100000 in
set_option maxHeartbeats 8000000 in
theorem same14_any (x y : ImE) (w : World) (hx : RIm w w.heap.size x) (hy : RIm w w.heap.size y) (sx : ImSz x) (sy : ImSz y) :
    Calls Try.prog 12 #[.agg (imC x), .agg (imC y)] w fun e w' => e = .returned (.bool (decide (x.p = y.p))) ∧ Below w.heap.size w w' := by
  have HX := bx hx
  have HY := bx hy
  have HSX := bx sx
  have HSY := bx sy
  have hb2 := sx.2.2.2.1
  have hb2' := sy.2.2.2.1
  have hb7 := sx.2.2.2.2.1
  have hb7' := sy.2.2.2.2.1
  have hb8 := sx.2.2.2.2.2.1
  have hb8' := sy.2.2.2.2.2.1
  have hb9 := sx.2.2.2.2.2.2.1
  have hb9' := sy.2.2.2.2.2.2.1
  have hb6 := sx.2.2.2.2.2.2.2
  have hb6' := sy.2.2.2.2.2.2.2
  obtain ⟨R, hR⟩ : ∃ R, decide (x.p = y.p) = R := ⟨_, rfl⟩
  obtain ⟨cs1, hcs1⟩ : ∃ cs, cs = imC x := ⟨_, rfl⟩
  obtain ⟨cs2, hcs2⟩ : ∃ cs, cs = imC y := ⟨_, rfl⟩
  rw [hR, ← hcs1, ← hcs2]
  have HCS1 := bx hcs1
  have HCS2 := bx hcs2
  obtain ⟨q1, hq1⟩ : ∃ q, decide (x.pool = y.pool) = q := ⟨_, rfl⟩
  obtain ⟨q2, hq2⟩ : ∃ q, decide (x.fs.map MmE.p = y.fs.map MmE.p) = q := ⟨_, rfl⟩
  obtain ⟨q3, hq3⟩ : ∃ q, decide (x.ms.map MmE.p = y.ms.map MmE.p) = q := ⟨_, rfl⟩
  obtain ⟨q4, hq4⟩ : ∃ q, decide (x.as_.map AtE.p = y.as_.map AtE.p) = q := ⟨_, rfl⟩
  have HQP := bx hq1
  have HQF := bx hq2
  have HQM := bx hq3
  have HQA := bx hq4
  have HNO : Bx (x.p ≠ y.p → R = false) := bx (fun h => by rw [← hR]; exact decide_eq_false h)
  have HYES : Bx (x.p = y.p → R = true) := bx (fun h => by rw [← hR]; exact decide_eq_true h)
  obtain ⟨B, hB⟩ : ∃ B, w.heap.size = B := ⟨_, rfl⟩
  have HKA := bx (Bk.newAt w 29 cs1 hB)
  have HBA := bx (bl_alloc (Below.refl w.heap.size w) (Nat.le_refl _) (.cells cs1 29))
  have hz1 : (w.alloc (.cells cs1 29)).heap.size = B + 1 := by rw [World.size_alloc, hB]
  have HKC := bx (Bk.newAt (w.alloc (.cells cs1 29)) 29 cs2 hz1)
  have HKB := bx (HKA.out.alloc (.cells cs2 29))
  have HBB := bx (bl_alloc HBA.out (Nat.le_refl _) (.cells cs2 29))
  have HB := bx hB
  have HZ1 := bx hz1
  clear hx hy sx sy hR hcs1 hcs2 hq1 hq2 hq3 hq4 hB hz1 HKA HBA
  go_enter Try.func12, Try.ntmps12
  go_upto_region 1 with (fail)
  rw [HB.out]
  generalize (w.alloc (.cells cs1 29)).alloc (.cells cs2 29) = wb at HKB HKC HBB ⊢
  clear HZ1
  have HXB := bx (HX.out.up HBB.out)
  have HYB := bx (HY.out.up HBB.out)
  have f0 := HKB.out.im0 HCS1.out
  have g0 := HKC.out.im0 HCS2.out
  have f1 := HKB.out.im1 HCS1.out
  have g1 := HKC.out.im1 HCS2.out
  have f3 := HKB.out.im3 HCS1.out
  have g3 := HKC.out.im3 HCS2.out
  have f4 := HKB.out.im4 HCS1.out
  have g4 := HKC.out.im4 HCS2.out
  have f5 := HKB.out.im5 HCS1.out
  have g5 := HKC.out.im5 HCS2.out
  have f6 := HKB.out.im6 HCS1.out
  have g6 := HKC.out.im6 HCS2.out
  have f2 := HKB.out.im2 HCS1.out
  have g2 := HKC.out.im2 HCS2.out
  by_cases hn0 : x.minor = y.minor
  · have d0 : (x.minor != y.minor) = false := by simp [hn0]
    have En0 := bx hn0
    clear hn0
    by_cases hn1 : x.major = y.major
    · have d1 : (x.major != y.major) = false := by simp [hn1]
      have En1 := bx hn1
      clear hn1
      by_cases hn2 : x.access = y.access
      · have d2 : (x.access != y.access) = false := by simp [hn2]
        have En2 := bx hn2
        clear hn2
        by_cases hn3 : x.this = y.this
        · have d3 : (x.this != y.this) = false := by simp [hn3]
          have En3 := bx hn3
          clear hn3
          by_cases hn4 : x.super = y.super
          · have d4 : (x.super != y.super) = false := by simp [hn4]
            have En4 := bx hn4
            clear hn4
            by_cases hn6 : x.i_n = y.i_n
            · have d6 : ((x.i_n : Int) != (y.i_n : Int)) = false := by simp [hn6]
              have HN6 := bx hn6
              clear hn6
              cases q1 with
              | false =>
                have HN : Bx (R = false) := bx (HNO.out (fun e => of_decide_eq_false HQP.out (congrArg Img.pool e)))
                go_wp2_with (go_at_call 38; refine (samePool_quiet _ _ x.pn _ y.pn _ x.pool y.pool wb HX.out.pl.1 HY.out.pl.1 hb2 hb2' HXB.out.pool HYB.out.pool).mono ?_; rintro e w5 ⟨rfl, q, rfl⟩; rw [HQP.out])
                go_ret
                exact ⟨by rw [HN.out]; rfl, below_drewN HBB.out q⟩
              | true =>
                have HEQ := bx (show x.minor = y.minor ∧ x.major = y.major ∧ x.access = y.access ∧ x.this = y.this ∧ x.super = y.super from ⟨En0.out, En1.out, En2.out, En3.out, En4.out⟩)
                clear En0 En1 En2 En3 En4
                have HI0 : Bx (x.ifs.take 0 = y.ifs.take 0) := bx rfl
                go_wp2_with (go_at_call 38; refine (samePool_quiet _ _ x.pn _ y.pn _ x.pool y.pool wb HX.out.pl.1 HY.out.pl.1 hb2 hb2' HXB.out.pool HYB.out.pool).mono ?_; rintro e w5 ⟨rfl, q, rfl⟩; rw [HQP.out])
                go_loopw [5] (fun iv wx => ∃ k : Nat, k ≤ x.i_n ∧ iv = .int .i64 (k : Int) ∧ Bx (x.ifs.take k = y.ifs.take k) ∧ Bx (∃ m, wx = wb.drewN m)) (fun i _ => x.i_n - (intOf i).toNat)
                case atStart => exact ⟨0, by omega, rfl, HI0, bx ⟨_, rfl⟩⟩
                case round =>
                  clear HI0
                  obtain ⟨k, hk, rfl, HI, HW⟩ := hrel
                  have hbr : Below wb.heap.size wb wr := by obtain ⟨m, e⟩ := HW.out; rw [e]; exact below_drewN (Below.refl _ _) m
                  have HWR : Bx (Below w.heap.size w wr) := bx (HBB.out.trans (hbr.mono HBB.out.size))
                  have HXR := bx (show RIm wr wr.heap.size x ∧ RIm wr wr.heap.size y from ⟨HXB.out.up hbr, HYB.out.up hbr⟩)
                  have HKR := bx (show Bk wr B 29 cs1 ∧ Bk wr (B + 1) 29 cs2 from ⟨HKB.out.below hbr HKB.out.lt, HKC.out.below hbr HKC.out.lt⟩)
                  have f6 := HKR.out.1.im6 HCS1.out
                  have g6 := HKR.out.2.im6 HCS2.out
                  clear hbr
                  by_cases hkn : k < x.i_n
                  · have hkI : (k : Int) < (x.i_n : Int) := by omega
                    have hkn2 : k < y.i_n := by have := HN6.out; omega
                    have hkI2 : (k : Int) < (y.i_n : Int) := by omega
                    obtain ⟨ad, a, hA, _, ha, p0⟩ := RL.num HXR.out.1.ifs (k := k) (by rw [HX.out.il.1]; exact hkn)
                    obtain ⟨bd, b, hA2, _, hb, q0⟩ := RL.num HXR.out.2.ifs (k := k) (by rw [HY.out.il.1]; exact hkn2)
                    rw [hA] at f6
                    rw [hA2] at g6
                    have HA := bx ha.out
                    have HA2 := bx hb.out
                    clear ha hb hA hA2
                    by_cases hab : a = b
                    · have dab : (a != b) = false := by simp [hab]
                      have HI2 : Bx (x.ifs.take (k + 1) = y.ifs.take (k + 1)) := bx (by rw [List.take_add_one, List.take_add_one, HA.out, HA2.out, HI.out, hab])
                      clear hab
                      go_wp2
                      go_quiet (fail)
                      have HW2 : Bx (∀ nq, (∃ m, wr.drewN nq = wb.drewN m) ∧ Below w.heap.size w (wr.drewN nq)) := bx (fun nq => ⟨by
                      obtain ⟨m, e⟩ := HW.out
                      rw [e]; exact ⟨m + nq, World.drewN_drewN _ _ _⟩, below_drewN HWR.out nq⟩)
                      go_wp2
                      go_roundw
                      case rel => exact ⟨k + 1, by omega, by go_num, HI2, bx (HW2.out _).1⟩
                      case measure => simp [intOf]; omega
                    · have dab : (a != b) = true := by simp [hab]
                      have HN : Bx (R = false) := bx (HNO.out (fun e => hab (by
                        have h9 : x.ifs = y.ifs := congrArg Img.ifaces e
                        have h8 := HA.out
                        rw [h9, HA2.out] at h8
                        injection h8 with h8
                        exact h8.symm)))
                      clear hab
                      go_wp2
                      go_quiet (fail)
                      have HW2 : Bx (∀ nq, (∃ m, wr.drewN nq = wb.drewN m) ∧ Below w.heap.size w (wr.drewN nq)) := bx (fun nq => ⟨by
                      obtain ⟨m, e⟩ := HW.out
                      rw [e]; exact ⟨m + nq, World.drewN_drewN _ _ _⟩, below_drewN HWR.out nq⟩)
                      go_wp2
                      go_ret
                      exact ⟨by rw [HN.out]; rfl, (HW2.out _).2⟩
                  · obtain rfl : x.i_n = k := by omega
                    have hkI : ¬ (x.i_n : Int) < (x.i_n : Int) := by omega
                    have HIF : Bx (x.ifs = y.ifs) := bx (by
                      have h9 := HI.out
                      rw [List.take_of_length_le (by rw [HX.out.il.1]; exact Nat.le_refl _), List.take_of_length_le (by rw [HY.out.il.1]; rw [HN6.out]; exact Nat.le_refl _)] at h9
                      exact h9)
                    have f7 := HKR.out.1.im7 HCS1.out
                    have g7 := HKR.out.2.im7 HCS2.out
                    clear HW HI
                    cases q2 with
                    | false =>
                      have HN : Bx (R = false) := bx (HNO.out (fun e => of_decide_eq_false HQF.out (congrArg Img.fields e)))
                      go_wp2_with (first
                      | (go_at_call 40; refine (sameAtts_quiet _ _ x.an _ y.an _ x.as_ y.as_ w7 HX.out.al.1 HY.out.al.1 hb9 hb9' HSX.out.2.2.1 HSY.out.2.2.1 (HX7.out.1.as_) (HX7.out.2.as_)).mono ?_; rintro e w8 ⟨rfl, hq8⟩; rw [HQA.out]; have HW8 : Bx (Below w.heap.size w w8) := bx (by obtain ⟨q, e⟩ := hq8; rw [e]; exact below_drewN HW7.out q); clear hq8)
                      | (have hz := HW6.out; clear hz; go_at_call 39; refine (sameMems_quiet _ _ x.mn _ y.mn _ x.ms y.ms w6 HX.out.ml.1 HY.out.ml.1 hb8 hb8' HSX.out.2.1 HSY.out.2.1 (HX6.out.1.ms) (HX6.out.2.ms)).mono ?_; rintro e w7 ⟨rfl, hq7⟩; rw [HQM.out]; have hb7 : Below w6.heap.size w6 w7 := (by obtain ⟨q, e⟩ := hq7; rw [e]; exact below_drewN (Below.refl _ _) q); have HW7 : Bx (Below w.heap.size w w7) := bx (HW6.out.trans (hb7.mono HW6.out.size)); have HX7 := bx (show RIm w7 w7.heap.size x ∧ RIm w7 w7.heap.size y from ⟨HX6.out.1.up hb7, HX6.out.2.up hb7⟩); have f9 := (HK6.out.1.below hb7 HK6.out.1.lt).im9 HCS1.out; have g9 := (HK6.out.2.below hb7 HK6.out.2.lt).im9 HCS2.out; clear hb7 hq7)
                      | (go_at_call 39; refine (sameMems_quiet _ _ x.fn _ y.fn _ x.fs y.fs wr HX.out.fl.1 HY.out.fl.1 hb7 hb7' HSX.out.1 HSY.out.1 (HXR.out.1.fs) (HXR.out.2.fs)).mono ?_; rintro e w6 ⟨rfl, hq6⟩; rw [HQF.out]; have hb6 : Below wr.heap.size wr w6 := (by obtain ⟨q, e⟩ := hq6; rw [e]; exact below_drewN (Below.refl _ _) q); have HW6 : Bx (Below w.heap.size w w6) := bx (HWR.out.trans (hb6.mono HWR.out.size)); have HX6 := bx (show RIm w6 w6.heap.size x ∧ RIm w6 w6.heap.size y from ⟨HXR.out.1.up hb6, HXR.out.2.up hb6⟩); have HK6 := bx (show Bk w6 B 29 cs1 ∧ Bk w6 (B + 1) 29 cs2 from ⟨HKR.out.1.below hb6 HKR.out.1.lt, HKR.out.2.below hb6 HKR.out.2.lt⟩); have f8 := HK6.out.1.im8 HCS1.out; have g8 := HK6.out.2.im8 HCS2.out; clear hb6 hq6))
                      go_ret
                      exact ⟨by rw [HN.out]; rfl, HW6.out⟩
                    | true =>
                      cases q3 with
                      | false =>
                        have HN : Bx (R = false) := bx (HNO.out (fun e => of_decide_eq_false HQM.out (congrArg Img.methods e)))
                        go_wp2_with (first
                      | (go_at_call 40; refine (sameAtts_quiet _ _ x.an _ y.an _ x.as_ y.as_ w7 HX.out.al.1 HY.out.al.1 hb9 hb9' HSX.out.2.2.1 HSY.out.2.2.1 (HX7.out.1.as_) (HX7.out.2.as_)).mono ?_; rintro e w8 ⟨rfl, hq8⟩; rw [HQA.out]; have HW8 : Bx (Below w.heap.size w w8) := bx (by obtain ⟨q, e⟩ := hq8; rw [e]; exact below_drewN HW7.out q); clear hq8)
                      | (have hz := HW6.out; clear hz; go_at_call 39; refine (sameMems_quiet _ _ x.mn _ y.mn _ x.ms y.ms w6 HX.out.ml.1 HY.out.ml.1 hb8 hb8' HSX.out.2.1 HSY.out.2.1 (HX6.out.1.ms) (HX6.out.2.ms)).mono ?_; rintro e w7 ⟨rfl, hq7⟩; rw [HQM.out]; have hb7 : Below w6.heap.size w6 w7 := (by obtain ⟨q, e⟩ := hq7; rw [e]; exact below_drewN (Below.refl _ _) q); have HW7 : Bx (Below w.heap.size w w7) := bx (HW6.out.trans (hb7.mono HW6.out.size)); have HX7 := bx (show RIm w7 w7.heap.size x ∧ RIm w7 w7.heap.size y from ⟨HX6.out.1.up hb7, HX6.out.2.up hb7⟩); have f9 := (HK6.out.1.below hb7 HK6.out.1.lt).im9 HCS1.out; have g9 := (HK6.out.2.below hb7 HK6.out.2.lt).im9 HCS2.out; clear hb7 hq7)
                      | (go_at_call 39; refine (sameMems_quiet _ _ x.fn _ y.fn _ x.fs y.fs wr HX.out.fl.1 HY.out.fl.1 hb7 hb7' HSX.out.1 HSY.out.1 (HXR.out.1.fs) (HXR.out.2.fs)).mono ?_; rintro e w6 ⟨rfl, hq6⟩; rw [HQF.out]; have hb6 : Below wr.heap.size wr w6 := (by obtain ⟨q, e⟩ := hq6; rw [e]; exact below_drewN (Below.refl _ _) q); have HW6 : Bx (Below w.heap.size w w6) := bx (HWR.out.trans (hb6.mono HWR.out.size)); have HX6 := bx (show RIm w6 w6.heap.size x ∧ RIm w6 w6.heap.size y from ⟨HXR.out.1.up hb6, HXR.out.2.up hb6⟩); have HK6 := bx (show Bk w6 B 29 cs1 ∧ Bk w6 (B + 1) 29 cs2 from ⟨HKR.out.1.below hb6 HKR.out.1.lt, HKR.out.2.below hb6 HKR.out.2.lt⟩); have f8 := HK6.out.1.im8 HCS1.out; have g8 := HK6.out.2.im8 HCS2.out; clear hb6 hq6))
                        go_ret
                        exact ⟨by rw [HN.out]; rfl, HW7.out⟩
                      | true =>
                        cases q4 with
                        | false =>
                          have HN : Bx (R = false) := bx (HNO.out (fun e => of_decide_eq_false HQA.out (congrArg Img.attrs e)))
                          go_wp2_with (first
                      | (go_at_call 40; refine (sameAtts_quiet _ _ x.an _ y.an _ x.as_ y.as_ w7 HX.out.al.1 HY.out.al.1 hb9 hb9' HSX.out.2.2.1 HSY.out.2.2.1 (HX7.out.1.as_) (HX7.out.2.as_)).mono ?_; rintro e w8 ⟨rfl, hq8⟩; rw [HQA.out]; have HW8 : Bx (Below w.heap.size w w8) := bx (by obtain ⟨q, e⟩ := hq8; rw [e]; exact below_drewN HW7.out q); clear hq8)
                      | (have hz := HW6.out; clear hz; go_at_call 39; refine (sameMems_quiet _ _ x.mn _ y.mn _ x.ms y.ms w6 HX.out.ml.1 HY.out.ml.1 hb8 hb8' HSX.out.2.1 HSY.out.2.1 (HX6.out.1.ms) (HX6.out.2.ms)).mono ?_; rintro e w7 ⟨rfl, hq7⟩; rw [HQM.out]; have hb7 : Below w6.heap.size w6 w7 := (by obtain ⟨q, e⟩ := hq7; rw [e]; exact below_drewN (Below.refl _ _) q); have HW7 : Bx (Below w.heap.size w w7) := bx (HW6.out.trans (hb7.mono HW6.out.size)); have HX7 := bx (show RIm w7 w7.heap.size x ∧ RIm w7 w7.heap.size y from ⟨HX6.out.1.up hb7, HX6.out.2.up hb7⟩); have f9 := (HK6.out.1.below hb7 HK6.out.1.lt).im9 HCS1.out; have g9 := (HK6.out.2.below hb7 HK6.out.2.lt).im9 HCS2.out; clear hb7 hq7)
                      | (go_at_call 39; refine (sameMems_quiet _ _ x.fn _ y.fn _ x.fs y.fs wr HX.out.fl.1 HY.out.fl.1 hb7 hb7' HSX.out.1 HSY.out.1 (HXR.out.1.fs) (HXR.out.2.fs)).mono ?_; rintro e w6 ⟨rfl, hq6⟩; rw [HQF.out]; have hb6 : Below wr.heap.size wr w6 := (by obtain ⟨q, e⟩ := hq6; rw [e]; exact below_drewN (Below.refl _ _) q); have HW6 : Bx (Below w.heap.size w w6) := bx (HWR.out.trans (hb6.mono HWR.out.size)); have HX6 := bx (show RIm w6 w6.heap.size x ∧ RIm w6 w6.heap.size y from ⟨HXR.out.1.up hb6, HXR.out.2.up hb6⟩); have HK6 := bx (show Bk w6 B 29 cs1 ∧ Bk w6 (B + 1) 29 cs2 from ⟨HKR.out.1.below hb6 HKR.out.1.lt, HKR.out.2.below hb6 HKR.out.2.lt⟩); have f8 := HK6.out.1.im8 HCS1.out; have g8 := HK6.out.2.im8 HCS2.out; clear hb6 hq6))
                          go_ret
                          exact ⟨by rw [HN.out]; rfl, HW8.out⟩
                        | true =>
                          have HN : Bx (R = true) := bx (HYES.out (by
                            show (⟨x.minor, x.major, x.pool, x.access, x.this, x.super, x.ifs, x.fs.map MmE.p, x.ms.map MmE.p, x.as_.map AtE.p⟩ : Img) = ⟨y.minor, y.major, y.pool, y.access, y.this, y.super, y.ifs, y.fs.map MmE.p, y.ms.map MmE.p, y.as_.map AtE.p⟩
                            rw [HEQ.out.1, HEQ.out.2.1, HEQ.out.2.2.1, HEQ.out.2.2.2.1, HEQ.out.2.2.2.2, of_decide_eq_true HQP.out, HIF.out, of_decide_eq_true HQF.out, of_decide_eq_true HQM.out, of_decide_eq_true HQA.out]))
                          go_wp2_with (first
                      | (go_at_call 40; refine (sameAtts_quiet _ _ x.an _ y.an _ x.as_ y.as_ w7 HX.out.al.1 HY.out.al.1 hb9 hb9' HSX.out.2.2.1 HSY.out.2.2.1 (HX7.out.1.as_) (HX7.out.2.as_)).mono ?_; rintro e w8 ⟨rfl, hq8⟩; rw [HQA.out]; have HW8 : Bx (Below w.heap.size w w8) := bx (by obtain ⟨q, e⟩ := hq8; rw [e]; exact below_drewN HW7.out q); clear hq8)
                      | (have hz := HW6.out; clear hz; go_at_call 39; refine (sameMems_quiet _ _ x.mn _ y.mn _ x.ms y.ms w6 HX.out.ml.1 HY.out.ml.1 hb8 hb8' HSX.out.2.1 HSY.out.2.1 (HX6.out.1.ms) (HX6.out.2.ms)).mono ?_; rintro e w7 ⟨rfl, hq7⟩; rw [HQM.out]; have hb7 : Below w6.heap.size w6 w7 := (by obtain ⟨q, e⟩ := hq7; rw [e]; exact below_drewN (Below.refl _ _) q); have HW7 : Bx (Below w.heap.size w w7) := bx (HW6.out.trans (hb7.mono HW6.out.size)); have HX7 := bx (show RIm w7 w7.heap.size x ∧ RIm w7 w7.heap.size y from ⟨HX6.out.1.up hb7, HX6.out.2.up hb7⟩); have f9 := (HK6.out.1.below hb7 HK6.out.1.lt).im9 HCS1.out; have g9 := (HK6.out.2.below hb7 HK6.out.2.lt).im9 HCS2.out; clear hb7 hq7)
                      | (go_at_call 39; refine (sameMems_quiet _ _ x.fn _ y.fn _ x.fs y.fs wr HX.out.fl.1 HY.out.fl.1 hb7 hb7' HSX.out.1 HSY.out.1 (HXR.out.1.fs) (HXR.out.2.fs)).mono ?_; rintro e w6 ⟨rfl, hq6⟩; rw [HQF.out]; have hb6 : Below wr.heap.size wr w6 := (by obtain ⟨q, e⟩ := hq6; rw [e]; exact below_drewN (Below.refl _ _) q); have HW6 : Bx (Below w.heap.size w w6) := bx (HWR.out.trans (hb6.mono HWR.out.size)); have HX6 := bx (show RIm w6 w6.heap.size x ∧ RIm w6 w6.heap.size y from ⟨HXR.out.1.up hb6, HXR.out.2.up hb6⟩); have HK6 := bx (show Bk w6 B 29 cs1 ∧ Bk w6 (B + 1) 29 cs2 from ⟨HKR.out.1.below hb6 HKR.out.1.lt, HKR.out.2.below hb6 HKR.out.2.lt⟩); have f8 := HK6.out.1.im8 HCS1.out; have g8 := HK6.out.2.im8 HCS2.out; clear hb6 hq6))
                          go_ret
                          exact ⟨by rw [HN.out]; rfl, HW8.out⟩
                
            · have d6 : ((x.i_n : Int) != (y.i_n : Int)) = true := by simp; omega
              have HN6 := bx hn6
              clear hn6
              have HN : Bx (R = false) := bx (HNO.out (fun e => HN6.out (by have h9 := congrArg (fun m => m.ifaces.length) e; have h9 : x.ifs.length = y.ifs.length := h9; rw [HX.out.il.1, HY.out.il.1] at h9; exact h9)))
              go_wp2_with fail
              go_ret
              exact ⟨by rw [HN.out]; rfl, HBB.out⟩
          · have d4 : (x.super != y.super) = true := by simp [hn4]
            have HN4 := bx hn4
            clear hn4
            have HN : Bx (R = false) := bx (HNO.out (fun e => HN4.out (congrArg Img.super e)))
            go_wp2_with fail
            go_ret
            exact ⟨by rw [HN.out]; rfl, HBB.out⟩
        · have d3 : (x.this != y.this) = true := by simp [hn3]
          have HN3 := bx hn3
          clear hn3
          have HN : Bx (R = false) := bx (HNO.out (fun e => HN3.out (congrArg Img.this e)))
          go_wp2_with fail
          go_ret
          exact ⟨by rw [HN.out]; rfl, HBB.out⟩
      · have d2 : (x.access != y.access) = true := by simp [hn2]
        have HN2 := bx hn2
        clear hn2
        have HN : Bx (R = false) := bx (HNO.out (fun e => HN2.out (congrArg Img.access e)))
        go_wp2_with fail
        go_ret
        exact ⟨by rw [HN.out]; rfl, HBB.out⟩
    · have d1 : (x.major != y.major) = true := by simp [hn1]
      have HN1 := bx hn1
      clear hn1
      have HN : Bx (R = false) := bx (HNO.out (fun e => HN1.out (congrArg Img.major e)))
      go_wp2_with fail
      go_ret
      exact ⟨by rw [HN.out]; rfl, HBB.out⟩
  · have d0 : (x.minor != y.minor) = true := by simp [hn0]
    have HN0 := bx hn0
    clear hn0
    have HN : Bx (R = false) := bx (HNO.out (fun e => HN0.out (congrArg Img.minor e)))
    go_wp2_with fail
    go_ret
    exact ⟨by rw [HN.out]; rfl, HBB.out⟩
end Go.Proofs.Ytdioijhmmmnbgaa
