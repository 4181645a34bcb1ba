/- Contract: samovarref14.Holds: the document's. -/
import Derived.Test.YtdioijhmmmnbgaaQiRiM
import Derived.Test.YtdioijhmmmnbgaaQiImJ
namespace Go.Proofs.Ytdioijhmmmnbgaa
open Go.RowKit
theorem holds_parts (x : ImE) : holdsP x.p = (u2P x.minor && decide (45 ≤ x.major ∧ x.major ≤ 52) && decide (1 ≤ x.pool.length ∧ x.pool.length ≤ 1024) && u2P x.access && decide (x.ifs.length ≤ 64) && rightsP x.pool && x.ifs.all (fun i => decide (tagP x.pool i = 7)) && decide (tagP x.pool x.this = 7) && decide (x.super = 0 ∨ tagP x.pool x.super = 7) && memsOk x.pool (x.fs.map MmE.p) && memsOk x.pool (x.ms.map MmE.p) && attsOk x.pool (x.as_.map AtE.p)) := rfl
theorem right_next {pool : List Cst} {k : Nat} {c : Cst} (h : ∀ j d, j < k → pool[j]? = some d → rightP pool j d = true) (hc : pool[k]? = some c) (hr : rightP pool k c = true) : ∀ j d, j < k + 1 → pool[j]? = some d → rightP pool j d = true := fun j d hj hd => by
  by_cases e : j = k
  · subst e
    have : c = d := by have := hc.symm.trans hd; injection this
    subst this; exact hr
  · exact h j d (by omega) hd
theorem right_all {pool : List Cst} {k : Nat} (h : ∀ j d, j < k → pool[j]? = some d → rightP pool j d = true) (hk : pool.length = k) : rightsP pool = true :=
  rights_iff.2 fun j d _ hd => h j d (by rw [← hk]; exact (List.getElem?_eq_some_iff.1 hd).1) hd
theorem right_bad {pool : List Cst} {k : Nat} {c : Cst} (hc : pool[k]? = some c) (hr : rightP pool k c = false) : rightsP pool = false := by
  cases h : rightsP pool with
  | false => rfl
  | true => have := rights_iff.1 h k c (Nat.zero_le _) hc; rw [hr] at this; cases this
set_option maxRecDepth 100000 in
set_option maxHeartbeats 16000000 in
theorem rholds_any (x : ImE) (w : World) (hx : RIm w w.heap.size x) (hT : ∀ c ∈ x.pool, c.text.length ≤ 2000000) :
    Calls Try.prog 18 #[.agg (imC x)] w fun e w' => e = .returned (.bool (holdsP x.p)) ∧ Below w.heap.size w w' := by
  have HX := bx hx
  have HT := bx hT
  have hpb : (x.pn : Int) ≤ 9223372036854775807 := by have := hx.pl; omega
  have hib : (x.i_n : Int) ≤ 9223372036854775807 := by have := hx.il; omega
  have hfb : (x.fn : Int) ≤ 9223372036854775807 := by have := hx.fl; omega
  have hmb : (x.mn : Int) ≤ 9223372036854775807 := by have := hx.ml; omega
  have hab : (x.an : Int) ≤ 9223372036854775807 := by have := hx.al; omega
  obtain ⟨R, hR⟩ : ∃ R, holdsP x.p = R := ⟨_, rfl⟩
  rw [hR]
  obtain ⟨q1, hq1⟩ : ∃ q, u2P x.minor = q := ⟨_, rfl⟩
  obtain ⟨q2, hq2⟩ : ∃ q, decide (45 ≤ x.major ∧ x.major ≤ 52) = q := ⟨_, rfl⟩
  obtain ⟨q3, hq3⟩ : ∃ q, decide (1 ≤ x.pool.length ∧ x.pool.length ≤ 1024) = q := ⟨_, rfl⟩
  obtain ⟨q4, hq4⟩ : ∃ q, u2P x.access = q := ⟨_, rfl⟩
  obtain ⟨q5, hq5⟩ : ∃ q, decide (x.ifs.length ≤ 64) = q := ⟨_, rfl⟩
  obtain ⟨q6, hq6⟩ : ∃ q, rightsP x.pool = q := ⟨_, rfl⟩
  obtain ⟨q7, hq7⟩ : ∃ q, x.ifs.all (fun i => decide (tagP x.pool i = 7)) = q := ⟨_, rfl⟩
  obtain ⟨q8, hq8⟩ : ∃ q, decide (tagP x.pool x.this = 7) = q := ⟨_, rfl⟩
  obtain ⟨q9, hq9⟩ : ∃ q, decide (x.super = 0 ∨ tagP x.pool x.super = 7) = q := ⟨_, rfl⟩
  obtain ⟨p1, hp1⟩ : ∃ q, memsOk x.pool (x.fs.map MmE.p) = q := ⟨_, rfl⟩
  obtain ⟨p2, hp2⟩ : ∃ q, memsOk x.pool (x.ms.map MmE.p) = q := ⟨_, rfl⟩
  obtain ⟨p3, hp3⟩ : ∃ q, attsOk x.pool (x.as_.map AtE.p) = q := ⟨_, rfl⟩
  have HRR : Bx (R = (q1 && q2 && q3 && q4 && q5 && q6 && q7 && q8 && q9 && p1 && p2 && p3)) := bx (by rw [← hR, holds_parts, hq1, hq2, hq3, hq4, hq5, hq6, hq7, hq8, hq9, hp1, hp2, hp3])
  have H1 := bx hq1
  have H2 := bx hq2
  have H3 := bx hq3
  have H4 := bx hq4
  have H5 := bx hq5
  have H6 := bx hq6
  have H7 := bx hq7
  have H8 := bx hq8
  have H9 := bx hq9
  have K1 := bx hp1
  have K2 := bx hp2
  have K3 := bx hp3
  obtain ⟨cs, hcs⟩ : ∃ cs, cs = imC x := ⟨_, rfl⟩
  rw [← hcs]
  have HCS := bx hcs
  obtain ⟨B, hB⟩ : ∃ B, w.heap.size = B := ⟨_, rfl⟩
  have HKB := bx (Bk.newAt w 29 cs hB)
  have HBB := bx (bl_alloc (Below.refl w.heap.size w) (Nat.le_refl _) (.cells cs 29))
  have HB := bx hB
  clear hx hT hcs hB hR hq1 hq2 hq3 hq4 hq5 hq6 hq7 hq8 hq9 hp1 hp2 hp3
  go_enter Try.func18, Try.ntmps18
  go_upto_region 1 with (fail)
  rw [HB.out]
  change Code.wp _ _ _ _ (w.alloc (.cells cs 29))
  generalize w.alloc (.cells cs 29) = wb at HKB HBB ⊢
  have HS : Bx (ImS w wb B x) := bx ⟨HBB.out, by rw [← HCS.out]; exact HKB.out⟩
  clear HKB HBB
  obtain ⟨f0, f1, f2, f3, f4, f5, f6, f7, f8, f9⟩ := im_all HS.out.im
  cases q1 with
  | false =>
    have HN : Bx (R = false) := bx (by rw [HRR.out]; simp)
    go_wp2_with (go_at_call 53; refine (ru2_any _ _).mono ?_; rintro e w2 ⟨rfl, rfl⟩; first | rw [H1.out] | rw [H4.out])
    go_ret
    exact ⟨by rw [HN.out]; rfl, HS.out.bel⟩
  | true =>
    by_cases m1 : x.major < 45
    · obtain rfl : q2 = false := by rw [← H2.out]; exact decide_eq_false (by omega)
      have HN : Bx (R = false) := bx (by rw [HRR.out]; simp)
      go_wp2_with (go_at_call 53; refine (ru2_any _ _).mono ?_; rintro e w2 ⟨rfl, rfl⟩; first | rw [H1.out] | rw [H4.out])
      go_ret
      exact ⟨by rw [HN.out]; rfl, HS.out.bel⟩
    by_cases m2 : 52 < x.major
    · obtain rfl : q2 = false := by rw [← H2.out]; exact decide_eq_false (by omega)
      have HN : Bx (R = false) := bx (by rw [HRR.out]; simp)
      go_wp2_with (go_at_call 53; refine (ru2_any _ _).mono ?_; rintro e w2 ⟨rfl, rfl⟩; first | rw [H1.out] | rw [H4.out])
      go_ret
      exact ⟨by rw [HN.out]; rfl, HS.out.bel⟩
    have HPL := bx HX.out.pl.1
    have HIL := bx HX.out.il.1
    by_cases l1 : x.pn < 1
    · obtain rfl : q3 = false := by rw [← H3.out]; exact decide_eq_false (by rw [HPL.out]; omega)
      have lI : (x.pn : Int) < 1 := by omega
      clear l1
      have HN : Bx (R = false) := bx (by rw [HRR.out]; simp)
      go_wp2_with (go_at_call 53; refine (ru2_any _ _).mono ?_; rintro e w2 ⟨rfl, rfl⟩; first | rw [H1.out] | rw [H4.out])
      go_ret
      exact ⟨by rw [HN.out]; rfl, HS.out.bel⟩
    by_cases l2 : 1024 < x.pn
    · obtain rfl : q3 = false := by rw [← H3.out]; exact decide_eq_false (by rw [HPL.out]; omega)
      have lI : ¬ (x.pn : Int) < 1 := by omega
      have lJ : (1024 : Int) < (x.pn : Int) := by omega
      clear l1 l2
      have HN : Bx (R = false) := bx (by rw [HRR.out]; simp)
      go_wp2_with (go_at_call 53; refine (ru2_any _ _).mono ?_; rintro e w2 ⟨rfl, rfl⟩; first | rw [H1.out] | rw [H4.out])
      go_ret
      exact ⟨by rw [HN.out]; rfl, HS.out.bel⟩
    have lI : ¬ (x.pn : Int) < 1 := by omega
    have lJ : ¬ (1024 : Int) < (x.pn : Int) := by omega
    clear l1 l2
    cases q4 with
    | false =>
      have HN : Bx (R = false) := bx (by rw [HRR.out]; simp)
      go_wp2_with (go_at_call 53; refine (ru2_any _ _).mono ?_; rintro e w2 ⟨rfl, rfl⟩; first | rw [H1.out] | rw [H4.out])
      go_ret
      exact ⟨by rw [HN.out]; rfl, HS.out.bel⟩
    | true =>
    by_cases i1 : 64 < x.i_n
    · obtain rfl : q5 = false := by rw [← H5.out]; exact decide_eq_false (by rw [HIL.out]; omega)
      have iI : (64 : Int) < (x.i_n : Int) := by omega
      clear i1
      have HN : Bx (R = false) := bx (by rw [HRR.out]; simp)
      go_wp2_with (go_at_call 53; refine (ru2_any _ _).mono ?_; rintro e w2 ⟨rfl, rfl⟩; first | rw [H1.out] | rw [H4.out])
      go_ret
      exact ⟨by rw [HN.out]; rfl, HS.out.bel⟩
    have iI : ¬ (64 : Int) < (x.i_n : Int) := by omega
    have HMI : Bx (x.i_n ≤ 64) := bx (by omega)
    have HMP : Bx (1 ≤ x.pn ∧ x.pn ≤ 1024) := bx (by omega)
    have HMA : Bx (45 ≤ x.major ∧ x.major ≤ 52) := bx (by omega)
    clear i1
    go_wp2_with (go_at_call 53; refine (ru2_any _ _).mono ?_; rintro e w2 ⟨rfl, rfl⟩; first | rw [H1.out] | rw [H4.out])
    clear f0 f1 f2 f3 f4 f5 f6 f7 f8 f9 lI lJ iI m1 m2
    have HA0 : Bx (∀ j d, j < 0 → x.pool[j]? = some d → rightP x.pool j d = true) := bx (fun j d hj => by omega)
    go_loopw [3] (fun iv wx => ∃ k : Nat, k ≤ x.pn ∧ iv = .int .i64 (k : Int) ∧ Bx (∀ j d, j < k → x.pool[j]? = some d → rightP x.pool j d = true) ∧ Bx (ImS w wx B x)) (fun i _ => x.pn - (intOf i).toNat)
    case atStart => exact ⟨0, by omega, rfl, HA0, HS⟩
    case round =>
      clear HA0 HS
      obtain ⟨k, hk, rfl, HA, HS⟩ := hrel
      obtain ⟨f0, f1, f2, f3, f4, f5, f6, f7, f8, f9⟩ := im_all HS.out.im
      by_cases hkn : k < x.pn
      · have hkI : (k : Int) < (x.pn : Int) := by omega
        obtain ⟨c, hc⟩ : ∃ c, x.pool[k]? = some c := ⟨_, List.getElem?_eq_getElem (by rw [HPL.out]; exact hkn)⟩
        have HC := bx hc
        have HRT := bx (rright_any x k c wr (HX.out.up HS.out.bel) hc (HT.out c (List.mem_of_getElem? hc)))
        obtain ⟨qr, hqr⟩ : ∃ q, rightP x.pool k c = q := ⟨_, rfl⟩
        rw [hqr] at HRT
        have HQR := bx hqr
        clear hc hqr
        go_wp2_with fail
        refine HRT.out.mono ?_
        rintro e w2 ⟨rfl, hb2⟩
        have HS2 := bx (HS.out.below hb2)
        clear hb2 HRT HS f0 f1 f2 f3 f4 f5 f6 f7 f8 f9
        cases qr with
        | false =>
          have HN : Bx (R = false) := bx (by
            have e6 : q6 = false := by rw [← H6.out]; exact right_bad HC.out HQR.out
            rw [HRR.out, e6]; simp)
          go_wp2
          go_ret
          exact ⟨by rw [HN.out]; rfl, HS2.out.bel⟩
        | true =>
          have HA2 := bx (right_next HA.out HC.out HQR.out)
          go_wp2
          go_roundw
          case rel => exact ⟨k + 1, by omega, by go_num, HA2, HS2⟩
          case measure => simp [intOf]; omega
      · obtain rfl : x.pn = k := by omega
        have hkI : ¬ (x.pn : Int) < (x.pn : Int) := by omega
        obtain rfl : q6 = true := by rw [← H6.out]; exact right_all HA.out HPL.out
        go_wp2_with fail
        clear f0 f1 f2 f3 f4 f5 f6 f7 f8 f9 hkn hkI
        have HI0 : Bx ((x.ifs.take 0).all (fun i => decide (tagP x.pool i = 7)) = true) := bx rfl
        go_loopw [4] (fun iv wx => ∃ k : Nat, k ≤ x.i_n ∧ iv = .int .i64 (k : Int) ∧ Bx ((x.ifs.take k).all (fun i => decide (tagP x.pool i = 7)) = true) ∧ Bx (ImS w wx B x)) (fun i _ => x.i_n - (intOf i).toNat)
        case atStart => exact ⟨0, by omega, rfl, HI0, HS⟩
        case round =>
          clear HI0 HS HA
          obtain ⟨k, hk, rfl, HA, HS⟩ := hrel
          by_cases hkn : k < x.i_n
          · have hkI : (k : Int) < (x.i_n : Int) := by omega
            have hkJ : (0 : Int) ≤ (k : Int) := by omega
            obtain ⟨ad, y, hAd, hlt, hy, p0⟩ := RL.num ((HX.out.up HS.out.bel).ifs) (k := k) (by rw [HIL.out]; exact hkn)
            have HY := bx hy.out
            have HAD := bx hAd
            have f6 := HS.out.im.im6 rfl
            rw [hAd] at f6
            have HSd := bx (HS.out.below (below_drewN (Below.refl _ wr) 1))
            have HEL : Bx (∀ w', ImS w w' B x → Below wr.heap.size wr w' → w'.cell? ⟨B, 0, none⟩ = some (.int .i64 x.minor) ∧ w'.cell? ⟨B, 1, none⟩ = some (.int .i64 x.major) ∧ w'.cell? ⟨B, 2, none⟩ = some (.slice x.pA x.pn x.pc) ∧ w'.cell? ⟨B, 3, none⟩ = some (.int .i64 x.access) ∧ w'.cell? ⟨B, 4, none⟩ = some (.int .i64 x.this) ∧ w'.cell? ⟨B, 5, none⟩ = some (.int .i64 x.super) ∧ w'.cell? ⟨B, 6, none⟩ = some (.slice (some ad) x.i_n x.ic) ∧ w'.cell? ⟨B, 7, none⟩ = some (.slice x.fA x.fn x.fc) ∧ w'.cell? ⟨B, 8, none⟩ = some (.slice x.mA x.mn x.mc) ∧ w'.cell? ⟨B, 9, none⟩ = some (.slice x.aA x.an x.ac) ∧ w'.cell? (ad.add k) = some (.int .i64 y)) := bx (fun w' hs hb => by
              obtain ⟨f0, f1, f2, f3, f4, f5, f6, f7, f8, f9⟩ := im_all hs.im
              rw [HAD.out] at f6
              exact ⟨f0, f1, f2, f3, f4, f5, f6, f7, f8, f9, (hb.cell (p := ad.add k) (by rw [blk_add]; exact hlt)).trans p0⟩)
            obtain ⟨tg, htg⟩ : ∃ t, tagP x.pool y = t := ⟨_, rfl⟩
            have HTG : Bx (Calls Try.prog 55 #[.agg #[.int .i64 x.minor, .int .i64 x.major, .slice x.pA x.pn x.pc, .int .i64 x.access, .int .i64 x.this, .int .i64 x.super, .slice (some ad) x.i_n x.ic, .slice x.fA x.fn x.fc, .slice x.mA x.mn x.mc, .slice x.aA x.an x.ac], .int .i64 y] wr.drew fun e w' => e = .returned (.int .i64 tg) ∧ Below wr.drew.heap.size wr.drew w') := bx (by
              have h9 := rtag_any x y wr.drew (HX.out.up HSd.out.bel)
              have e9 : (.agg (imC x) : Value) = .agg #[.int .i64 x.minor, .int .i64 x.major, .slice x.pA x.pn x.pc, .int .i64 x.access, .int .i64 x.this, .int .i64 x.super, .slice (some ad) x.i_n x.ic, .slice x.fA x.fn x.fc, .slice x.mA x.mn x.mc, .slice x.aA x.an x.ac] := by unfold imC; rw [HAD.out]
              rw [e9, htg] at h9
              exact h9)
            have HTE := bx htg
            have hS0 := HEL.out wr.drew HSd.out (below_drewN (Below.refl _ wr) 1)
            clear hy hAd p0 htg hlt
            go_upto_region 11 with (fail)
            go_region_held3 (fun w' => w'.cell? ⟨B, 0, none⟩ = some (.int .i64 x.minor) ∧ w'.cell? ⟨B, 1, none⟩ = some (.int .i64 x.major) ∧ w'.cell? ⟨B, 2, none⟩ = some (.slice x.pA x.pn x.pc) ∧ w'.cell? ⟨B, 3, none⟩ = some (.int .i64 x.access) ∧ w'.cell? ⟨B, 4, none⟩ = some (.int .i64 x.this) ∧ w'.cell? ⟨B, 5, none⟩ = some (.int .i64 x.super) ∧ w'.cell? ⟨B, 6, none⟩ = some (.slice (some ad) x.i_n x.ic) ∧ w'.cell? ⟨B, 7, none⟩ = some (.slice x.fA x.fn x.fc) ∧ w'.cell? ⟨B, 8, none⟩ = some (.slice x.mA x.mn x.mc) ∧ w'.cell? ⟨B, 9, none⟩ = some (.slice x.aA x.an x.ac) ∧ w'.cell? (ad.add k) = some (.int .i64 y)) (first | exact hS0 | exact hS1) ((go_at_call 55; refine HTG.out.mono ?_; rintro e w2 ⟨rfl, hb2⟩; have HS2 := bx (HSd.out.below hb2); have hS1 := HEL.out w2 HS2.out ((below_drewN (Below.refl _ wr) 1).trans hb2); clear hb2))
            all_goals (
              clear hS0 hS1 HSd HS HTG HEL f6
              by_cases h7 : tg = 7
              · have h7b : (tg != 7) = false := by rw [h7]; rfl
                have HA2 := bx (all_next HA.out HY.out (show decide (tagP x.pool y = 7) = true by rw [HTE.out]; exact decide_eq_true h7))
                clear h7
                go_wp2
                go_roundw
                case rel => exact ⟨k + 1, by omega, by go_num, HA2, HS2⟩
                case measure => simp [intOf]; omega
              · have h7b : (tg != 7) = true := by rw [bne_iff_ne]; exact h7
                have HN : Bx (R = false) := bx (by
                  have e7 : q7 = false := by rw [← H7.out]; exact (List.all_eq_false).2 ⟨y, List.mem_of_getElem? HY.out, by rw [HTE.out]; simpa using h7⟩
                  rw [HRR.out, e7]; simp)
                clear h7
                go_wp2
                go_ret
                exact ⟨by rw [HN.out]; rfl, HS2.out.bel⟩)
          · obtain rfl : x.i_n = k := by omega
            have hkI : ¬ (x.i_n : Int) < (x.i_n : Int) := by omega
            obtain rfl : q7 = true := by rw [← H7.out]; exact all_end HA.out HIL.out
            have HH : Bx (q2 = true ∧ q3 = true ∧ q5 = true) := bx ⟨by rw [← H2.out]; exact decide_eq_true HMA.out, by rw [← H3.out]; exact decide_eq_true (by rw [HPL.out]; exact HMP.out), by rw [← H5.out]; exact decide_eq_true (by rw [HIL.out]; exact HMI.out)⟩
            clear hkn hk HA
            obtain ⟨v0, hv0⟩ : ∃ v, v = wr := ⟨_, rfl⟩
            have V0 : Bx (ImS w v0 B x) := bx (by rw [hv0]; exact HS.out)
            rw [← hv0]
            clear hv0 HS
            obtain ⟨t8, ht8⟩ : ∃ t, tagP x.pool x.this = t := ⟨_, rfl⟩
            have HT8 := bx ht8
            clear ht8
            have HC0 := bx (rtag_any x x.this v0 (HX.out.up V0.out.bel))
            rw [HT8.out] at HC0
            obtain ⟨f0, f1, f2, f3, f4, f5, f6, f7, f8, f9⟩ := im_all V0.out.im
            go_wp2_with fail
            refine HC0.out.mono ?_
            rintro e v1 ⟨rfl, hb⟩
            have V1 := bx (V0.out.below hb)
            clear hb HC0 f0 f1 f2 f3 f4 f5 f6 f7 f8 f9
            by_cases h8 : t8 = 7
            · have h8b : (t8 == 7) = true := by rw [h8]; rfl
              obtain rfl : q8 = true := by rw [← H8.out, HT8.out]; exact decide_eq_true h8
              clear h8
              have f5 := V1.out.im.im5 rfl
              by_cases h0 : x.super = 0
              · have h0b : (x.super == 0) = true := by rw [h0]; rfl
                obtain rfl : q9 = true := by rw [← H9.out]; exact decide_eq_true (.inl h0)
                clear h0 f5
                have HC1 := bx (rmembers_any x x.fA x.fn x.fc x.fs v1 (HX.out.up V1.out.bel) HX.out.fl.1 hfb (HX.out.up V1.out.bel).fs)
                rw [K1.out] at HC1
                obtain ⟨f0, f1, f2, f3, f4, f5, f6, f7, f8, f9⟩ := im_all V1.out.im
                go_wp2_with fail
                refine HC1.out.mono ?_
                rintro e v2 ⟨rfl, hb⟩
                have V2 := bx (V1.out.below hb)
                clear hb HC1 f0 f1 f2 f3 f4 f5 f6 f7 f8 f9
                cases p1 with
                | false =>
                  have HN : Bx (R = false) := bx (by rw [HRR.out]; simp)
                  go_wp2
                  go_ret
                  exact ⟨by rw [HN.out]; rfl, V2.out.bel⟩
                | true =>
                  have HC2 := bx (rmembers_any x x.mA x.mn x.mc x.ms v2 (HX.out.up V2.out.bel) HX.out.ml.1 hmb (HX.out.up V2.out.bel).ms)
                  rw [K2.out] at HC2
                  obtain ⟨f0, f1, f2, f3, f4, f5, f6, f7, f8, f9⟩ := im_all V2.out.im
                  go_wp2_with fail
                  refine HC2.out.mono ?_
                  rintro e v3 ⟨rfl, hb⟩
                  have V3 := bx (V2.out.below hb)
                  clear hb HC2 f0 f1 f2 f3 f4 f5 f6 f7 f8 f9
                  cases p2 with
                  | false =>
                    have HN : Bx (R = false) := bx (by rw [HRR.out]; simp)
                    go_wp2
                    go_ret
                    exact ⟨by rw [HN.out]; rfl, V3.out.bel⟩
                  | true =>
                    have HC3 := bx (rattrs_any x x.aA x.an x.ac x.as_ v3 (HX.out.up V3.out.bel) HX.out.al.1 hab (HX.out.up V3.out.bel).as_)
                    rw [K3.out] at HC3
                    obtain ⟨f0, f1, f2, f3, f4, f5, f6, f7, f8, f9⟩ := im_all V3.out.im
                    go_wp2_with fail
                    refine HC3.out.mono ?_
                    rintro e v4 ⟨rfl, hb⟩
                    have V4 := bx (V3.out.below hb)
                    clear hb HC3 f0 f1 f2 f3 f4 f5 f6 f7 f8 f9
                    have HN : Bx (R = p3) := bx (by rw [HRR.out, HH.out.1, HH.out.2.1, HH.out.2.2]; simp)
                    go_wp2
                    go_ret
                    exact ⟨by rw [HN.out]; try rfl, V4.out.bel⟩
              · have h0b : (x.super == 0) = false := by rw [beq_eq_false_iff_ne]; exact h0
                obtain ⟨t9, ht9⟩ : ∃ t, tagP x.pool x.super = t := ⟨_, rfl⟩
                have HT9 := bx ht9
                clear ht9 f5
                have HC1 := bx (rtag_any x x.super v1 (HX.out.up V1.out.bel))
                rw [HT9.out] at HC1
                obtain ⟨f0, f1, f2, f3, f4, f5, f6, f7, f8, f9⟩ := im_all V1.out.im
                go_wp2_with fail
                refine HC1.out.mono ?_
                rintro e v2 ⟨rfl, hb⟩
                have V2 := bx (V1.out.below hb)
                clear hb HC1 f0 f1 f2 f3 f4 f5 f6 f7 f8 f9
                by_cases h9 : t9 = 7
                · have h9b : (t9 == 7) = true := by rw [h9]; rfl
                  obtain rfl : q9 = true := by rw [← H9.out, HT9.out]; exact decide_eq_true (.inr h9)
                  clear h9 h0
                  have HC2 := bx (rmembers_any x x.fA x.fn x.fc x.fs v2 (HX.out.up V2.out.bel) HX.out.fl.1 hfb (HX.out.up V2.out.bel).fs)
                  rw [K1.out] at HC2
                  obtain ⟨f0, f1, f2, f3, f4, f5, f6, f7, f8, f9⟩ := im_all V2.out.im
                  go_wp2_with fail
                  refine HC2.out.mono ?_
                  rintro e v3 ⟨rfl, hb⟩
                  have V3 := bx (V2.out.below hb)
                  clear hb HC2 f0 f1 f2 f3 f4 f5 f6 f7 f8 f9
                  cases p1 with
                  | false =>
                    have HN : Bx (R = false) := bx (by rw [HRR.out]; simp)
                    go_wp2
                    go_ret
                    exact ⟨by rw [HN.out]; rfl, V3.out.bel⟩
                  | true =>
                    have HC3 := bx (rmembers_any x x.mA x.mn x.mc x.ms v3 (HX.out.up V3.out.bel) HX.out.ml.1 hmb (HX.out.up V3.out.bel).ms)
                    rw [K2.out] at HC3
                    obtain ⟨f0, f1, f2, f3, f4, f5, f6, f7, f8, f9⟩ := im_all V3.out.im
                    go_wp2_with fail
                    refine HC3.out.mono ?_
                    rintro e v4 ⟨rfl, hb⟩
                    have V4 := bx (V3.out.below hb)
                    clear hb HC3 f0 f1 f2 f3 f4 f5 f6 f7 f8 f9
                    cases p2 with
                    | false =>
                      have HN : Bx (R = false) := bx (by rw [HRR.out]; simp)
                      go_wp2
                      go_ret
                      exact ⟨by rw [HN.out]; rfl, V4.out.bel⟩
                    | true =>
                      have HC4 := bx (rattrs_any x x.aA x.an x.ac x.as_ v4 (HX.out.up V4.out.bel) HX.out.al.1 hab (HX.out.up V4.out.bel).as_)
                      rw [K3.out] at HC4
                      obtain ⟨f0, f1, f2, f3, f4, f5, f6, f7, f8, f9⟩ := im_all V4.out.im
                      go_wp2_with fail
                      refine HC4.out.mono ?_
                      rintro e v5 ⟨rfl, hb⟩
                      have V5 := bx (V4.out.below hb)
                      clear hb HC4 f0 f1 f2 f3 f4 f5 f6 f7 f8 f9
                      have HN : Bx (R = p3) := bx (by rw [HRR.out, HH.out.1, HH.out.2.1, HH.out.2.2]; simp)
                      go_wp2
                      go_ret
                      exact ⟨by rw [HN.out]; try rfl, V5.out.bel⟩
                · have h9b : (t9 == 7) = false := by rw [beq_eq_false_iff_ne]; exact h9
                  obtain rfl : q9 = false := by rw [← H9.out, HT9.out]; exact decide_eq_false (fun e => by rcases e with e | e; exact h0 e; exact h9 e)
                  clear h9 h0
                  have HN : Bx (R = false) := bx (by rw [HRR.out]; simp)
                  go_wp2
                  go_ret
                  exact ⟨by rw [HN.out]; rfl, V2.out.bel⟩
            · have h8b : (t8 == 7) = false := by rw [beq_eq_false_iff_ne]; exact h8
              obtain rfl : q8 = false := by rw [← H8.out, HT8.out]; exact decide_eq_false h8
              have f5 := V1.out.im.im5 rfl
              clear h8
              have HN : Bx (R = false) := bx (by rw [HRR.out]; simp)
              go_wp2
              go_ret
              exact ⟨by rw [HN.out]; rfl, V1.out.bel⟩
end Go.Proofs.Ytdioijhmmmnbgaa
