/- Contract: image.Holds. -/
import Derived.Test.YtdioijhmmmnbgaaQiImI
namespace Go.Proofs.Ytdioijhmmmnbgaa
open Go.RowKit
theorem Bk.im0 {w : World} {B : Nat} {t : TypeId} {cs : Array Value} {x : ImE} (h : Bk w B t cs) (hc : cs = imC x) : w.cell? ⟨B, 0, none⟩ = some (.int .i64 x.minor) := by rw [h.cell 0, hc]; rfl
theorem Bk.im1 {w : World} {B : Nat} {t : TypeId} {cs : Array Value} {x : ImE} (h : Bk w B t cs) (hc : cs = imC x) : w.cell? ⟨B, 1, none⟩ = some (.int .i64 x.major) := by rw [h.cell 1, hc]; rfl
theorem Bk.im2 {w : World} {B : Nat} {t : TypeId} {cs : Array Value} {x : ImE} (h : Bk w B t cs) (hc : cs = imC x) : w.cell? ⟨B, 2, none⟩ = some (.slice x.pA x.pn x.pc) := by rw [h.cell 2, hc]; rfl
theorem Bk.im3 {w : World} {B : Nat} {t : TypeId} {cs : Array Value} {x : ImE} (h : Bk w B t cs) (hc : cs = imC x) : w.cell? ⟨B, 3, none⟩ = some (.int .i64 x.access) := by rw [h.cell 3, hc]; rfl
theorem Bk.im4 {w : World} {B : Nat} {t : TypeId} {cs : Array Value} {x : ImE} (h : Bk w B t cs) (hc : cs = imC x) : w.cell? ⟨B, 4, none⟩ = some (.int .i64 x.this) := by rw [h.cell 4, hc]; rfl
theorem Bk.im5 {w : World} {B : Nat} {t : TypeId} {cs : Array Value} {x : ImE} (h : Bk w B t cs) (hc : cs = imC x) : w.cell? ⟨B, 5, none⟩ = some (.int .i64 x.super) := by rw [h.cell 5, hc]; rfl
theorem Bk.im6 {w : World} {B : Nat} {t : TypeId} {cs : Array Value} {x : ImE} (h : Bk w B t cs) (hc : cs = imC x) : w.cell? ⟨B, 6, none⟩ = some (.slice x.iA x.i_n x.ic) := by rw [h.cell 6, hc]; rfl
theorem Bk.im7 {w : World} {B : Nat} {t : TypeId} {cs : Array Value} {x : ImE} (h : Bk w B t cs) (hc : cs = imC x) : w.cell? ⟨B, 7, none⟩ = some (.slice x.fA x.fn x.fc) := by rw [h.cell 7, hc]; rfl
theorem Bk.im8 {w : World} {B : Nat} {t : TypeId} {cs : Array Value} {x : ImE} (h : Bk w B t cs) (hc : cs = imC x) : w.cell? ⟨B, 8, none⟩ = some (.slice x.mA x.mn x.mc) := by rw [h.cell 8, hc]; rfl
theorem Bk.im9 {w : World} {B : Nat} {t : TypeId} {cs : Array Value} {x : ImE} (h : Bk w B t cs) (hc : cs = imC x) : w.cell? ⟨B, 9, none⟩ = some (.slice x.aA x.an x.ac) := by rw [h.cell 9, hc]; rfl
theorem RIm.up {w w' : World} {x : ImE} (h : RIm w w.heap.size x) (hb : Below w.heap.size w w') : RIm w' w'.heap.size x := (h.below hb (Nat.le_refl _)).more hb.size
theorem holds_eq (x : ImE) (q1 q2 q3 q4 q5 q6 q7 q8 q9 q0 : Bool) (h1 : [x.minor, x.access].all u2P = q1) (h2 : decide (45 ≤ x.major ∧ x.major ≤ 52) = q2) (h3 : poolOk x.pool = q3) (h4 : decide (x.i_n ≤ 64) = q4) (hl : x.ifs.length = x.i_n) (h0 : x.ifs.all (fun i => decide (tagP x.pool i = 7)) = q0)
    (h5 : decide (tagP x.pool x.this = 7) = q5) (h6 : decide (x.super = 0 ∨ tagP x.pool x.super = 7) = q6) (h7 : memsOk x.pool (x.fs.map MmE.p) = q7) (h8 : memsOk x.pool (x.ms.map MmE.p) = q8) (h9 : attsOk x.pool (x.as_.map AtE.p) = q9) :
    holdsP x.p = (q1 && q2 && q3 && q4 && q0 && q5 && q6 && q7 && q8 && q9) := by
  show (headOk x.p && rightsP x.pool && x.ifs.all (fun i => decide (tagP x.pool i = 7)) && decide (tagP x.pool x.this = 7) && decide (x.super = 0 ∨ tagP x.pool x.super = 7) && memsOk x.pool (x.fs.map MmE.p) && memsOk x.pool (x.ms.map MmE.p) && attsOk x.pool (x.as_.map AtE.p)) = _
  have hh : (headOk x.p && rightsP x.pool) = (q1 && q2 && q3 && q4) := by
    rw [← h1, ← h2, ← h3, ← h4]
    show ((u2P x.minor && decide (45 ≤ x.major ∧ x.major ≤ 52) && decide (1 ≤ x.pool.length ∧ x.pool.length ≤ 1024) && u2P x.access && decide (x.ifs.length ≤ 64)) && rightsP x.pool) = (([x.minor, x.access].all u2P && decide (45 ≤ x.major ∧ x.major ≤ 52)) && (decide (1 ≤ x.pool.length ∧ x.pool.length ≤ 1024) && rightsP x.pool) && decide (x.i_n ≤ 64))
    rw [hl]
    simp only [List.all_cons, List.all_nil, Bool.and_true]
    generalize u2P x.minor = a
    generalize u2P x.access = b
    generalize decide (45 ≤ x.major ∧ x.major ≤ 52) = c
    generalize decide (1 ≤ x.pool.length ∧ x.pool.length ≤ 1024) = d
    generalize decide (x.i_n ≤ 64) = e
    generalize rightsP x.pool = f
    cases a <;> cases b <;> cases c <;> cases d <;> cases e <;> cases f <;> rfl
  rw [hh, h0, h5, h6, h7, h8, h9]
set_option maxRecDepth 100000 in
set_option maxHeartbeats 8000000 in
theorem holds_any (x : ImE) (w : World) (hx : RIm w w.heap.size x) (hT : ∀ c ∈ x.pool, (-9223372036854775808 ≤ c.tag ∧ c.tag ≤ 9223372036854775807) ∧ c.text.length ≤ 2000000) :
    Calls Try.prog 17 #[.agg (imC x)] w fun e w' => e = .returned (.bool (holdsP x.p)) ∧ Below w.heap.size w w' := by
  have HX := bx hx
  have HT := bx hT
  have hpb : (x.pn : Int) ≤ 9223372036854775807 := by have := hx.pl; omega
  have hib : (x.i_n : Int) ≤ 9223372036854775807 := by have := hx.il; omega
  have hfb : (x.fn : Int) ≤ 9223372036854775807 := by have := hx.fl; omega
  have hmb : (x.mn : Int) ≤ 9223372036854775807 := by have := hx.ml; omega
  have hab : (x.an : Int) ≤ 9223372036854775807 := by have := hx.al; omega
  obtain ⟨R, hR⟩ : ∃ R, holdsP x.p = R := ⟨_, rfl⟩
  obtain ⟨cs, hcs⟩ : ∃ cs, cs = imC x := ⟨_, rfl⟩
  rw [hR, ← hcs]
  have HCS := bx hcs
  obtain ⟨q1, hq1⟩ : ∃ q, [x.minor, x.access].all u2P = q := ⟨_, rfl⟩
  obtain ⟨q2, hq2⟩ : ∃ q, decide (45 ≤ x.major ∧ x.major ≤ 52) = q := ⟨_, rfl⟩
  obtain ⟨q3, hq3⟩ : ∃ q, poolOk x.pool = q := ⟨_, rfl⟩
  obtain ⟨q4, hq4⟩ : ∃ q, decide (x.i_n ≤ 64) = q := ⟨_, rfl⟩
  obtain ⟨q0, hq0⟩ : ∃ q, x.ifs.all (fun i => decide (tagP x.pool i = 7)) = q := ⟨_, rfl⟩
  obtain ⟨q5, hq5⟩ : ∃ q, decide (tagP x.pool x.this = 7) = q := ⟨_, rfl⟩
  obtain ⟨q6, hq6⟩ : ∃ q, decide (tagP x.pool x.super = 7) = q := ⟨_, rfl⟩
  obtain ⟨s6, hs6⟩ : ∃ q, decide (x.super = 0 ∨ tagP x.pool x.super = 7) = q := ⟨_, rfl⟩
  obtain ⟨q7, hq7⟩ : ∃ q, memsOk x.pool (x.fs.map MmE.p) = q := ⟨_, rfl⟩
  obtain ⟨q8, hq8⟩ : ∃ q, memsOk x.pool (x.ms.map MmE.p) = q := ⟨_, rfl⟩
  obtain ⟨q9, hq9⟩ : ∃ q, attsOk x.pool (x.as_.map AtE.p) = q := ⟨_, rfl⟩
  have HHP : Bx (R = (q1 && q2 && q3 && q4 && q0 && q5 && s6 && q7 && q8 && q9)) := bx (by rw [← hR]; exact holds_eq x q1 q2 q3 q4 q5 s6 q7 q8 q9 q0 hq1 hq2 hq3 hq4 hx.il.1 hq0 hq5 hs6 hq7 hq8 hq9)
  have HU := bx hq1
  have HQ2 := bx hq2
  have HQ3 := bx hq3
  have HQ4 := bx hq4
  have HQ0 := bx hq0
  have HQ5 := bx hq5
  have HQ6 := bx hq6
  have HS6 := bx hs6
  have HQ7 := bx hq7
  have HQ8 := bx hq8
  have HQ9 := bx hq9
  obtain ⟨B, hB⟩ : ∃ B, w.heap.size = B := ⟨_, rfl⟩
  have HKB := bx (Bk.newAt w 29 cs hB)
  have HBB := bx (bl_alloc (Below.refl w.heap.size w) (Nat.le_refl _) (.cells cs 29))
  have HB := bx hB
  clear hx hT hR hcs hq1 hq2 hq3 hq4 hq0 hq5 hq6 hs6 hq7 hq8 hq9 hB
  go_enter Try.func17, Try.ntmps17
  go_upto_region 1 with (fail)
  rw [HB.out]
  generalize w.alloc (.cells cs 29) = wb at HKB HBB ⊢
  have b0 := HKB.out.im0 HCS.out
  have b2 := HKB.out.im2 HCS.out
  have b3 := HKB.out.im3 HCS.out
  generalize hwc : wb.alloc (.cells #[.int .i64 x.minor, .int .i64 x.access] 3) = wc
  have HWC := bx hwc
  have HKC : Bx (Bk wc B 29 cs) := bx (by rw [← hwc]; exact HKB.out.alloc _)
  have HBC : Bx (Below w.heap.size w wc) := bx (by rw [← hwc]; exact bl_alloc HBB.out (Nat.le_refl _) _)
  have HRI : Bx (RL iV wc wc.heap.size (some ⟨wb.heap.size, 0, none⟩) [x.minor, x.access]) := bx (by rw [← hwc]; exact RL.top (RL.news wb [x.minor, x.access] _ rfl _ _))
  have HXC := bx (HX.out.up HBC.out)
  have b1 := HKC.out.im1 HCS.out
  clear hwc
  cases q1 with
  | false =>
    have HN : Bx (R = false) := bx (by rw [HHP.out]; simp)
    go_wp2_with (first
      | (go_at_call 48; rw [HWC.out]; refine (small_any _ 2 2 [x.minor, x.access] wc rfl (by decide) HRI.out).mono ?_; rintro e w' ⟨rfl, rfl⟩; rw [HU.out])
      | (go_at_call 49; refine (pholds_any _ x.pn _ x.pool wc HX.out.pl.1 hpb HXC.out.pool HT.out).mono ?_; rintro e w5 ⟨rfl, hb5⟩; rw [HQ3.out]; have HB5 : Bx (Below w.heap.size w w5) := bx (HBC.out.trans (hb5.mono HBC.out.size)); have HX5 := bx (HXC.out.up hb5); have HK5 := bx (HKC.out.below hb5 HKC.out.lt); have f6 := HK5.out.im6 HCS.out; clear hb5))
    go_ret
    exact ⟨by rw [HN.out]; rfl, HBC.out⟩
  | true =>
    by_cases m1 : x.major < 45
    · obtain rfl : q2 = false := by rw [← HQ2.out]; exact decide_eq_false (by omega)
      have HN : Bx (R = false) := bx (by rw [HHP.out]; simp)
      go_wp2_with (first
      | (go_at_call 48; rw [HWC.out]; refine (small_any _ 2 2 [x.minor, x.access] wc rfl (by decide) HRI.out).mono ?_; rintro e w' ⟨rfl, rfl⟩; rw [HU.out])
      | (go_at_call 49; refine (pholds_any _ x.pn _ x.pool wc HX.out.pl.1 hpb HXC.out.pool HT.out).mono ?_; rintro e w5 ⟨rfl, hb5⟩; rw [HQ3.out]; have HB5 : Bx (Below w.heap.size w w5) := bx (HBC.out.trans (hb5.mono HBC.out.size)); have HX5 := bx (HXC.out.up hb5); have HK5 := bx (HKC.out.below hb5 HKC.out.lt); have f6 := HK5.out.im6 HCS.out; clear hb5))
      go_ret
      exact ⟨by rw [HN.out]; rfl, HBC.out⟩
    by_cases m2 : 52 < x.major
    · obtain rfl : q2 = false := by rw [← HQ2.out]; exact decide_eq_false (by omega)
      have HN : Bx (R = false) := bx (by rw [HHP.out]; simp)
      go_wp2_with (first
      | (go_at_call 48; rw [HWC.out]; refine (small_any _ 2 2 [x.minor, x.access] wc rfl (by decide) HRI.out).mono ?_; rintro e w' ⟨rfl, rfl⟩; rw [HU.out])
      | (go_at_call 49; refine (pholds_any _ x.pn _ x.pool wc HX.out.pl.1 hpb HXC.out.pool HT.out).mono ?_; rintro e w5 ⟨rfl, hb5⟩; rw [HQ3.out]; have HB5 : Bx (Below w.heap.size w w5) := bx (HBC.out.trans (hb5.mono HBC.out.size)); have HX5 := bx (HXC.out.up hb5); have HK5 := bx (HKC.out.below hb5 HKC.out.lt); have f6 := HK5.out.im6 HCS.out; clear hb5))
      go_ret
      exact ⟨by rw [HN.out]; rfl, HBC.out⟩
    cases q3 with
    | false =>
      have HN : Bx (R = false) := bx (by rw [HHP.out]; simp)
      go_wp2_with (first
      | (go_at_call 48; rw [HWC.out]; refine (small_any _ 2 2 [x.minor, x.access] wc rfl (by decide) HRI.out).mono ?_; rintro e w' ⟨rfl, rfl⟩; rw [HU.out])
      | (go_at_call 49; refine (pholds_any _ x.pn _ x.pool wc HX.out.pl.1 hpb HXC.out.pool HT.out).mono ?_; rintro e w5 ⟨rfl, hb5⟩; rw [HQ3.out]; have HB5 : Bx (Below w.heap.size w w5) := bx (HBC.out.trans (hb5.mono HBC.out.size)); have HX5 := bx (HXC.out.up hb5); have HK5 := bx (HKC.out.below hb5 HKC.out.lt); have f6 := HK5.out.im6 HCS.out; clear hb5))
      go_ret
      exact ⟨by rw [HN.out]; rfl, HB5.out⟩
    | true =>
      by_cases h64 : x.i_n ≤ 64
      · have h64I : ¬ (64 : Int) < (x.i_n : Int) := by omega
        have HHQ : Bx (q2 = true ∧ q4 = true) := bx ⟨by rw [← HQ2.out]; exact decide_eq_true (by omega), by rw [← HQ4.out]; exact decide_eq_true h64⟩
        go_upto_region 4 with (first
      | (go_at_call 48; rw [HWC.out]; refine (small_any _ 2 2 [x.minor, x.access] wc rfl (by decide) HRI.out).mono ?_; rintro e w' ⟨rfl, rfl⟩; rw [HU.out])
      | (go_at_call 49; refine (pholds_any _ x.pn _ x.pool wc HX.out.pl.1 hpb HXC.out.pool HT.out).mono ?_; rintro e w5 ⟨rfl, hb5⟩; rw [HQ3.out]; have HB5 : Bx (Below w.heap.size w w5) := bx (HBC.out.trans (hb5.mono HBC.out.size)); have HX5 := bx (HXC.out.up hb5); have HK5 := bx (HKC.out.below hb5 HKC.out.lt); have f6 := HK5.out.im6 HCS.out; clear hb5))
        clear b0 b1 b2 b3
        have HA0 : Bx ((x.ifs.take 0).all (fun i => decide (tagP x.pool i = 7)) = true) := bx rfl
        have f4 := HK5.out.im4 HCS.out
        have f5 := HK5.out.im5 HCS.out
        have f7 := HK5.out.im7 HCS.out
        go_wp2
        go_loop [39] (fun iv => ∃ k : Nat, k ≤ x.i_n ∧ iv = .int .i64 (k : Int) ∧ Bx ((x.ifs.take k).all (fun i => decide (tagP x.pool i = 7)) = true)) (fun i => x.i_n - (intOf i).toNat)
        case atStart => exact ⟨0, by omega, rfl, HA0⟩
        case round =>
          clear HA0
          obtain ⟨k, hk, rfl, HA⟩ := hrel
          by_cases hkn : k < x.i_n
          · have hkI : (k : Int) < (x.i_n : Int) := by omega
            obtain ⟨ad, y, hAd, _, hy, p0⟩ := RL.num HX5.out.ifs (k := k) (by rw [HX.out.il.1]; exact hkn)
            have HY := bx hy.out
            rw [hAd] at f6 ⊢
            clear hy hAd
            cases hq : decide (tagP x.pool y = 7) with
            | false =>
              have HN : Bx (R = false) := bx (by
                have e0 : q0 = false := by rw [← HQ0.out]; exact (List.all_eq_false).2 ⟨y, List.mem_of_getElem? HY.out, by simpa using hq⟩
                rw [HHP.out, e0]; simp)
              have HQY := bx hq
              clear hq
              go_wp2_with (go_at_call 50; refine (is_any _ x.pn _ x.pool _ 7 w5 HX.out.pl.1 hpb (by decide) HX5.out.pool).mono ?_; rintro e w' ⟨rfl, rfl⟩; rw [HQY.out])
              go_ret
              exact ⟨by rw [HN.out]; rfl, HB5.out⟩
            | true =>
              have HA2 := bx (all_next HA.out HY.out hq)
              have HQY := bx hq
              clear hq
              go_wp2_with (go_at_call 50; refine (is_any _ x.pn _ x.pool _ 7 w5 HX.out.pl.1 hpb (by decide) HX5.out.pool).mono ?_; rintro e w' ⟨rfl, rfl⟩; rw [HQY.out])
              go_round
              case rel => exact ⟨k + 1, by omega, by go_num, HA2⟩
              case measure => simp [intOf]; omega
          · obtain rfl : x.i_n = k := by omega
            have hkI : ¬ (x.i_n : Int) < (x.i_n : Int) := by omega
            obtain rfl : q0 = true := by rw [← HQ0.out]; exact all_end HA.out HX.out.il.1
            cases q5 with
            | false =>
              have HN : Bx (R = false) := bx (by rw [HHP.out, HHQ.out.1, HHQ.out.2]; simp)
              go_wp2_with (first
      | (go_at_call 50; refine (is_any _ x.pn _ x.pool _ 7 w5 HX.out.pl.1 hpb (by decide) HX5.out.pool).mono ?_; rintro e w' ⟨rfl, rfl⟩; first | rw [HQ5.out] | rw [HQ6.out])
      | (go_at_call 52; refine (pattrs_any _ x.pn _ x.pool _ x.an _ x.as_ w7 HX.out.pl.1 hpb HX7.out.pool HX.out.al.1 hab HX7.out.as_).mono ?_; rintro e w8 ⟨rfl, hb8⟩; rw [HQ9.out]; have HB8 : Bx (Below w.heap.size w w8) := bx (HB7.out.trans (hb8.mono HB7.out.size)); clear hb8)
      | (have hz := HB6.out; clear hz; go_at_call 51; refine (pmems_any _ x.pn _ x.pool _ x.mn _ x.ms w6 HX.out.pl.1 hpb HX6.out.pool HX.out.ml.1 hmb HX6.out.ms).mono ?_; rintro e w7 ⟨rfl, hb7⟩; rw [HQ8.out]; have HB7 : Bx (Below w.heap.size w w7) := bx (HB6.out.trans (hb7.mono HB6.out.size)); have HX7 := bx (HX6.out.up hb7); have g9 := (HK6.out.below hb7 HK6.out.lt).im9 HCS.out; clear hb7)
      | (go_at_call 51; refine (pmems_any _ x.pn _ x.pool _ x.fn _ x.fs w5 HX.out.pl.1 hpb HX5.out.pool HX.out.fl.1 hfb HX5.out.fs).mono ?_; rintro e w6 ⟨rfl, hb6⟩; rw [HQ7.out]; have HB6 : Bx (Below w.heap.size w w6) := bx (HB5.out.trans (hb6.mono HB5.out.size)); have HX6 := bx (HX5.out.up hb6); have HK6 := bx (HK5.out.below hb6 HK5.out.lt); have g8 := HK6.out.im8 HCS.out; clear hb6))
              go_ret
              exact ⟨by rw [HN.out]; rfl, HB5.out⟩
            | true =>
              by_cases hs0 : x.super = 0
              · obtain rfl : s6 = true := by rw [← HS6.out]; exact decide_eq_true (Or.inl hs0)
                cases q7 with
                | false =>
                  have HN : Bx (R = false) := bx (by rw [HHP.out, HHQ.out.1, HHQ.out.2]; simp)
                  go_wp2_with (first
      | (go_at_call 50; refine (is_any _ x.pn _ x.pool _ 7 w5 HX.out.pl.1 hpb (by decide) HX5.out.pool).mono ?_; rintro e w' ⟨rfl, rfl⟩; first | rw [HQ5.out] | rw [HQ6.out])
      | (go_at_call 52; refine (pattrs_any _ x.pn _ x.pool _ x.an _ x.as_ w7 HX.out.pl.1 hpb HX7.out.pool HX.out.al.1 hab HX7.out.as_).mono ?_; rintro e w8 ⟨rfl, hb8⟩; rw [HQ9.out]; have HB8 : Bx (Below w.heap.size w w8) := bx (HB7.out.trans (hb8.mono HB7.out.size)); clear hb8)
      | (have hz := HB6.out; clear hz; go_at_call 51; refine (pmems_any _ x.pn _ x.pool _ x.mn _ x.ms w6 HX.out.pl.1 hpb HX6.out.pool HX.out.ml.1 hmb HX6.out.ms).mono ?_; rintro e w7 ⟨rfl, hb7⟩; rw [HQ8.out]; have HB7 : Bx (Below w.heap.size w w7) := bx (HB6.out.trans (hb7.mono HB6.out.size)); have HX7 := bx (HX6.out.up hb7); have g9 := (HK6.out.below hb7 HK6.out.lt).im9 HCS.out; clear hb7)
      | (go_at_call 51; refine (pmems_any _ x.pn _ x.pool _ x.fn _ x.fs w5 HX.out.pl.1 hpb HX5.out.pool HX.out.fl.1 hfb HX5.out.fs).mono ?_; rintro e w6 ⟨rfl, hb6⟩; rw [HQ7.out]; have HB6 : Bx (Below w.heap.size w w6) := bx (HB5.out.trans (hb6.mono HB5.out.size)); have HX6 := bx (HX5.out.up hb6); have HK6 := bx (HK5.out.below hb6 HK5.out.lt); have g8 := HK6.out.im8 HCS.out; clear hb6))
                  go_ret
                  exact ⟨by rw [HN.out]; rfl, HB6.out⟩
                | true =>
                  cases q8 with
                  | false =>
                    have HN : Bx (R = false) := bx (by rw [HHP.out, HHQ.out.1, HHQ.out.2]; simp)
                    go_wp2_with (first
      | (go_at_call 50; refine (is_any _ x.pn _ x.pool _ 7 w5 HX.out.pl.1 hpb (by decide) HX5.out.pool).mono ?_; rintro e w' ⟨rfl, rfl⟩; first | rw [HQ5.out] | rw [HQ6.out])
      | (go_at_call 52; refine (pattrs_any _ x.pn _ x.pool _ x.an _ x.as_ w7 HX.out.pl.1 hpb HX7.out.pool HX.out.al.1 hab HX7.out.as_).mono ?_; rintro e w8 ⟨rfl, hb8⟩; rw [HQ9.out]; have HB8 : Bx (Below w.heap.size w w8) := bx (HB7.out.trans (hb8.mono HB7.out.size)); clear hb8)
      | (have hz := HB6.out; clear hz; go_at_call 51; refine (pmems_any _ x.pn _ x.pool _ x.mn _ x.ms w6 HX.out.pl.1 hpb HX6.out.pool HX.out.ml.1 hmb HX6.out.ms).mono ?_; rintro e w7 ⟨rfl, hb7⟩; rw [HQ8.out]; have HB7 : Bx (Below w.heap.size w w7) := bx (HB6.out.trans (hb7.mono HB6.out.size)); have HX7 := bx (HX6.out.up hb7); have g9 := (HK6.out.below hb7 HK6.out.lt).im9 HCS.out; clear hb7)
      | (go_at_call 51; refine (pmems_any _ x.pn _ x.pool _ x.fn _ x.fs w5 HX.out.pl.1 hpb HX5.out.pool HX.out.fl.1 hfb HX5.out.fs).mono ?_; rintro e w6 ⟨rfl, hb6⟩; rw [HQ7.out]; have HB6 : Bx (Below w.heap.size w w6) := bx (HB5.out.trans (hb6.mono HB5.out.size)); have HX6 := bx (HX5.out.up hb6); have HK6 := bx (HK5.out.below hb6 HK5.out.lt); have g8 := HK6.out.im8 HCS.out; clear hb6))
                    go_ret
                    exact ⟨by rw [HN.out]; rfl, HB7.out⟩
                  | true =>
                    cases q9 with
                    | false =>
                      have HN : Bx (R = false) := bx (by rw [HHP.out, HHQ.out.1, HHQ.out.2]; simp)
                      go_wp2_with (first
      | (go_at_call 50; refine (is_any _ x.pn _ x.pool _ 7 w5 HX.out.pl.1 hpb (by decide) HX5.out.pool).mono ?_; rintro e w' ⟨rfl, rfl⟩; first | rw [HQ5.out] | rw [HQ6.out])
      | (go_at_call 52; refine (pattrs_any _ x.pn _ x.pool _ x.an _ x.as_ w7 HX.out.pl.1 hpb HX7.out.pool HX.out.al.1 hab HX7.out.as_).mono ?_; rintro e w8 ⟨rfl, hb8⟩; rw [HQ9.out]; have HB8 : Bx (Below w.heap.size w w8) := bx (HB7.out.trans (hb8.mono HB7.out.size)); clear hb8)
      | (have hz := HB6.out; clear hz; go_at_call 51; refine (pmems_any _ x.pn _ x.pool _ x.mn _ x.ms w6 HX.out.pl.1 hpb HX6.out.pool HX.out.ml.1 hmb HX6.out.ms).mono ?_; rintro e w7 ⟨rfl, hb7⟩; rw [HQ8.out]; have HB7 : Bx (Below w.heap.size w w7) := bx (HB6.out.trans (hb7.mono HB6.out.size)); have HX7 := bx (HX6.out.up hb7); have g9 := (HK6.out.below hb7 HK6.out.lt).im9 HCS.out; clear hb7)
      | (go_at_call 51; refine (pmems_any _ x.pn _ x.pool _ x.fn _ x.fs w5 HX.out.pl.1 hpb HX5.out.pool HX.out.fl.1 hfb HX5.out.fs).mono ?_; rintro e w6 ⟨rfl, hb6⟩; rw [HQ7.out]; have HB6 : Bx (Below w.heap.size w w6) := bx (HB5.out.trans (hb6.mono HB5.out.size)); have HX6 := bx (HX5.out.up hb6); have HK6 := bx (HK5.out.below hb6 HK5.out.lt); have g8 := HK6.out.im8 HCS.out; clear hb6))
                      go_ret
                      exact ⟨by rw [HN.out]; rfl, HB8.out⟩
                    | true =>
                      have HN : Bx (R = true) := bx (by rw [HHP.out, HHQ.out.1, HHQ.out.2]; simp)
                      go_wp2_with (first
      | (go_at_call 50; refine (is_any _ x.pn _ x.pool _ 7 w5 HX.out.pl.1 hpb (by decide) HX5.out.pool).mono ?_; rintro e w' ⟨rfl, rfl⟩; first | rw [HQ5.out] | rw [HQ6.out])
      | (go_at_call 52; refine (pattrs_any _ x.pn _ x.pool _ x.an _ x.as_ w7 HX.out.pl.1 hpb HX7.out.pool HX.out.al.1 hab HX7.out.as_).mono ?_; rintro e w8 ⟨rfl, hb8⟩; rw [HQ9.out]; have HB8 : Bx (Below w.heap.size w w8) := bx (HB7.out.trans (hb8.mono HB7.out.size)); clear hb8)
      | (have hz := HB6.out; clear hz; go_at_call 51; refine (pmems_any _ x.pn _ x.pool _ x.mn _ x.ms w6 HX.out.pl.1 hpb HX6.out.pool HX.out.ml.1 hmb HX6.out.ms).mono ?_; rintro e w7 ⟨rfl, hb7⟩; rw [HQ8.out]; have HB7 : Bx (Below w.heap.size w w7) := bx (HB6.out.trans (hb7.mono HB6.out.size)); have HX7 := bx (HX6.out.up hb7); have g9 := (HK6.out.below hb7 HK6.out.lt).im9 HCS.out; clear hb7)
      | (go_at_call 51; refine (pmems_any _ x.pn _ x.pool _ x.fn _ x.fs w5 HX.out.pl.1 hpb HX5.out.pool HX.out.fl.1 hfb HX5.out.fs).mono ?_; rintro e w6 ⟨rfl, hb6⟩; rw [HQ7.out]; have HB6 : Bx (Below w.heap.size w w6) := bx (HB5.out.trans (hb6.mono HB5.out.size)); have HX6 := bx (HX5.out.up hb6); have HK6 := bx (HK5.out.below hb6 HK5.out.lt); have g8 := HK6.out.im8 HCS.out; clear hb6))
                      go_ret
                      exact ⟨by rw [HN.out]; rfl, HB8.out⟩
              · cases q6 with
                | false =>
                  obtain rfl : s6 = false := by rw [← HS6.out]; exact decide_eq_false (fun h => h.elim hs0 (of_decide_eq_false HQ6.out))
                  have HN : Bx (R = false) := bx (by rw [HHP.out, HHQ.out.1, HHQ.out.2]; simp)
                  go_wp2_with (first
      | (go_at_call 50; refine (is_any _ x.pn _ x.pool _ 7 w5 HX.out.pl.1 hpb (by decide) HX5.out.pool).mono ?_; rintro e w' ⟨rfl, rfl⟩; first | rw [HQ5.out] | rw [HQ6.out])
      | (go_at_call 52; refine (pattrs_any _ x.pn _ x.pool _ x.an _ x.as_ w7 HX.out.pl.1 hpb HX7.out.pool HX.out.al.1 hab HX7.out.as_).mono ?_; rintro e w8 ⟨rfl, hb8⟩; rw [HQ9.out]; have HB8 : Bx (Below w.heap.size w w8) := bx (HB7.out.trans (hb8.mono HB7.out.size)); clear hb8)
      | (have hz := HB6.out; clear hz; go_at_call 51; refine (pmems_any _ x.pn _ x.pool _ x.mn _ x.ms w6 HX.out.pl.1 hpb HX6.out.pool HX.out.ml.1 hmb HX6.out.ms).mono ?_; rintro e w7 ⟨rfl, hb7⟩; rw [HQ8.out]; have HB7 : Bx (Below w.heap.size w w7) := bx (HB6.out.trans (hb7.mono HB6.out.size)); have HX7 := bx (HX6.out.up hb7); have g9 := (HK6.out.below hb7 HK6.out.lt).im9 HCS.out; clear hb7)
      | (go_at_call 51; refine (pmems_any _ x.pn _ x.pool _ x.fn _ x.fs w5 HX.out.pl.1 hpb HX5.out.pool HX.out.fl.1 hfb HX5.out.fs).mono ?_; rintro e w6 ⟨rfl, hb6⟩; rw [HQ7.out]; have HB6 : Bx (Below w.heap.size w w6) := bx (HB5.out.trans (hb6.mono HB5.out.size)); have HX6 := bx (HX5.out.up hb6); have HK6 := bx (HK5.out.below hb6 HK5.out.lt); have g8 := HK6.out.im8 HCS.out; clear hb6))
                  go_ret
                  exact ⟨by rw [HN.out]; rfl, HB5.out⟩
                | true =>
                  obtain rfl : s6 = true := by rw [← HS6.out]; exact decide_eq_true (Or.inr (of_decide_eq_true HQ6.out))
                  cases q7 with
                  | false =>
                    have HN : Bx (R = false) := bx (by rw [HHP.out, HHQ.out.1, HHQ.out.2]; simp)
                    go_wp2_with (first
      | (go_at_call 50; refine (is_any _ x.pn _ x.pool _ 7 w5 HX.out.pl.1 hpb (by decide) HX5.out.pool).mono ?_; rintro e w' ⟨rfl, rfl⟩; first | rw [HQ5.out] | rw [HQ6.out])
      | (go_at_call 52; refine (pattrs_any _ x.pn _ x.pool _ x.an _ x.as_ w7 HX.out.pl.1 hpb HX7.out.pool HX.out.al.1 hab HX7.out.as_).mono ?_; rintro e w8 ⟨rfl, hb8⟩; rw [HQ9.out]; have HB8 : Bx (Below w.heap.size w w8) := bx (HB7.out.trans (hb8.mono HB7.out.size)); clear hb8)
      | (have hz := HB6.out; clear hz; go_at_call 51; refine (pmems_any _ x.pn _ x.pool _ x.mn _ x.ms w6 HX.out.pl.1 hpb HX6.out.pool HX.out.ml.1 hmb HX6.out.ms).mono ?_; rintro e w7 ⟨rfl, hb7⟩; rw [HQ8.out]; have HB7 : Bx (Below w.heap.size w w7) := bx (HB6.out.trans (hb7.mono HB6.out.size)); have HX7 := bx (HX6.out.up hb7); have g9 := (HK6.out.below hb7 HK6.out.lt).im9 HCS.out; clear hb7)
      | (go_at_call 51; refine (pmems_any _ x.pn _ x.pool _ x.fn _ x.fs w5 HX.out.pl.1 hpb HX5.out.pool HX.out.fl.1 hfb HX5.out.fs).mono ?_; rintro e w6 ⟨rfl, hb6⟩; rw [HQ7.out]; have HB6 : Bx (Below w.heap.size w w6) := bx (HB5.out.trans (hb6.mono HB5.out.size)); have HX6 := bx (HX5.out.up hb6); have HK6 := bx (HK5.out.below hb6 HK5.out.lt); have g8 := HK6.out.im8 HCS.out; clear hb6))
                    go_ret
                    exact ⟨by rw [HN.out]; rfl, HB6.out⟩
                  | true =>
                    cases q8 with
                    | false =>
                      have HN : Bx (R = false) := bx (by rw [HHP.out, HHQ.out.1, HHQ.out.2]; simp)
                      go_wp2_with (first
      | (go_at_call 50; refine (is_any _ x.pn _ x.pool _ 7 w5 HX.out.pl.1 hpb (by decide) HX5.out.pool).mono ?_; rintro e w' ⟨rfl, rfl⟩; first | rw [HQ5.out] | rw [HQ6.out])
      | (go_at_call 52; refine (pattrs_any _ x.pn _ x.pool _ x.an _ x.as_ w7 HX.out.pl.1 hpb HX7.out.pool HX.out.al.1 hab HX7.out.as_).mono ?_; rintro e w8 ⟨rfl, hb8⟩; rw [HQ9.out]; have HB8 : Bx (Below w.heap.size w w8) := bx (HB7.out.trans (hb8.mono HB7.out.size)); clear hb8)
      | (have hz := HB6.out; clear hz; go_at_call 51; refine (pmems_any _ x.pn _ x.pool _ x.mn _ x.ms w6 HX.out.pl.1 hpb HX6.out.pool HX.out.ml.1 hmb HX6.out.ms).mono ?_; rintro e w7 ⟨rfl, hb7⟩; rw [HQ8.out]; have HB7 : Bx (Below w.heap.size w w7) := bx (HB6.out.trans (hb7.mono HB6.out.size)); have HX7 := bx (HX6.out.up hb7); have g9 := (HK6.out.below hb7 HK6.out.lt).im9 HCS.out; clear hb7)
      | (go_at_call 51; refine (pmems_any _ x.pn _ x.pool _ x.fn _ x.fs w5 HX.out.pl.1 hpb HX5.out.pool HX.out.fl.1 hfb HX5.out.fs).mono ?_; rintro e w6 ⟨rfl, hb6⟩; rw [HQ7.out]; have HB6 : Bx (Below w.heap.size w w6) := bx (HB5.out.trans (hb6.mono HB5.out.size)); have HX6 := bx (HX5.out.up hb6); have HK6 := bx (HK5.out.below hb6 HK5.out.lt); have g8 := HK6.out.im8 HCS.out; clear hb6))
                      go_ret
                      exact ⟨by rw [HN.out]; rfl, HB7.out⟩
                    | true =>
                      cases q9 with
                      | false =>
                        have HN : Bx (R = false) := bx (by rw [HHP.out, HHQ.out.1, HHQ.out.2]; simp)
                        go_wp2_with (first
      | (go_at_call 50; refine (is_any _ x.pn _ x.pool _ 7 w5 HX.out.pl.1 hpb (by decide) HX5.out.pool).mono ?_; rintro e w' ⟨rfl, rfl⟩; first | rw [HQ5.out] | rw [HQ6.out])
      | (go_at_call 52; refine (pattrs_any _ x.pn _ x.pool _ x.an _ x.as_ w7 HX.out.pl.1 hpb HX7.out.pool HX.out.al.1 hab HX7.out.as_).mono ?_; rintro e w8 ⟨rfl, hb8⟩; rw [HQ9.out]; have HB8 : Bx (Below w.heap.size w w8) := bx (HB7.out.trans (hb8.mono HB7.out.size)); clear hb8)
      | (have hz := HB6.out; clear hz; go_at_call 51; refine (pmems_any _ x.pn _ x.pool _ x.mn _ x.ms w6 HX.out.pl.1 hpb HX6.out.pool HX.out.ml.1 hmb HX6.out.ms).mono ?_; rintro e w7 ⟨rfl, hb7⟩; rw [HQ8.out]; have HB7 : Bx (Below w.heap.size w w7) := bx (HB6.out.trans (hb7.mono HB6.out.size)); have HX7 := bx (HX6.out.up hb7); have g9 := (HK6.out.below hb7 HK6.out.lt).im9 HCS.out; clear hb7)
      | (go_at_call 51; refine (pmems_any _ x.pn _ x.pool _ x.fn _ x.fs w5 HX.out.pl.1 hpb HX5.out.pool HX.out.fl.1 hfb HX5.out.fs).mono ?_; rintro e w6 ⟨rfl, hb6⟩; rw [HQ7.out]; have HB6 : Bx (Below w.heap.size w w6) := bx (HB5.out.trans (hb6.mono HB5.out.size)); have HX6 := bx (HX5.out.up hb6); have HK6 := bx (HK5.out.below hb6 HK5.out.lt); have g8 := HK6.out.im8 HCS.out; clear hb6))
                        go_ret
                        exact ⟨by rw [HN.out]; rfl, HB8.out⟩
                      | true =>
                        have HN : Bx (R = true) := bx (by rw [HHP.out, HHQ.out.1, HHQ.out.2]; simp)
                        go_wp2_with (first
      | (go_at_call 50; refine (is_any _ x.pn _ x.pool _ 7 w5 HX.out.pl.1 hpb (by decide) HX5.out.pool).mono ?_; rintro e w' ⟨rfl, rfl⟩; first | rw [HQ5.out] | rw [HQ6.out])
      | (go_at_call 52; refine (pattrs_any _ x.pn _ x.pool _ x.an _ x.as_ w7 HX.out.pl.1 hpb HX7.out.pool HX.out.al.1 hab HX7.out.as_).mono ?_; rintro e w8 ⟨rfl, hb8⟩; rw [HQ9.out]; have HB8 : Bx (Below w.heap.size w w8) := bx (HB7.out.trans (hb8.mono HB7.out.size)); clear hb8)
      | (have hz := HB6.out; clear hz; go_at_call 51; refine (pmems_any _ x.pn _ x.pool _ x.mn _ x.ms w6 HX.out.pl.1 hpb HX6.out.pool HX.out.ml.1 hmb HX6.out.ms).mono ?_; rintro e w7 ⟨rfl, hb7⟩; rw [HQ8.out]; have HB7 : Bx (Below w.heap.size w w7) := bx (HB6.out.trans (hb7.mono HB6.out.size)); have HX7 := bx (HX6.out.up hb7); have g9 := (HK6.out.below hb7 HK6.out.lt).im9 HCS.out; clear hb7)
      | (go_at_call 51; refine (pmems_any _ x.pn _ x.pool _ x.fn _ x.fs w5 HX.out.pl.1 hpb HX5.out.pool HX.out.fl.1 hfb HX5.out.fs).mono ?_; rintro e w6 ⟨rfl, hb6⟩; rw [HQ7.out]; have HB6 : Bx (Below w.heap.size w w6) := bx (HB5.out.trans (hb6.mono HB5.out.size)); have HX6 := bx (HX5.out.up hb6); have HK6 := bx (HK5.out.below hb6 HK5.out.lt); have g8 := HK6.out.im8 HCS.out; clear hb6))
                        go_ret
                        exact ⟨by rw [HN.out]; rfl, HB8.out⟩
      · have h64I : (64 : Int) < (x.i_n : Int) := by omega
        obtain rfl : q4 = false := by rw [← HQ4.out]; exact decide_eq_false h64
        have HN : Bx (R = false) := bx (by rw [HHP.out]; simp)
        go_wp2_with (first
      | (go_at_call 48; rw [HWC.out]; refine (small_any _ 2 2 [x.minor, x.access] wc rfl (by decide) HRI.out).mono ?_; rintro e w' ⟨rfl, rfl⟩; rw [HU.out])
      | (go_at_call 49; refine (pholds_any _ x.pn _ x.pool wc HX.out.pl.1 hpb HXC.out.pool HT.out).mono ?_; rintro e w5 ⟨rfl, hb5⟩; rw [HQ3.out]; have HB5 : Bx (Below w.heap.size w w5) := bx (HBC.out.trans (hb5.mono HBC.out.size)); have HX5 := bx (HXC.out.up hb5); have HK5 := bx (HKC.out.below hb5 HKC.out.lt); have f6 := HK5.out.im6 HCS.out; clear hb5))
        go_ret
        exact ⟨by rw [HN.out]; rfl, HB5.out⟩
end Go.Proofs.Ytdioijhmmmnbgaa
