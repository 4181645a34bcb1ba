/- Contracts: (image.pool).attrs and members. -/
import Derived.Test.YtdioijhmmmnbgaaQiImG
import Derived.Test.YtdioijhmmmnbgaaPi7
namespace Go.Proofs.Ytdioijhmmmnbgaa
open Go.RowKit
def okE (L : List Cst) (y : AtE) : Bool := attOk L y.p
theorem attsOk_E (L : List Cst) (M : List AtE) : attsOk L (M.map AtE.p) = (M.all (okE L) && decide (M.length ≤ 64)) := by unfold attsOk; rw [List.all_map, List.length_map]; rfl
theorem attsOk_bad {L : List Cst} {M : List AtE} {k : Nat} {x : AtE} (hx : M[k]? = some x) (h : okE L x = false) : attsOk L (M.map AtE.p) = false := by
  rw [attsOk_E, (List.all_eq_false).2 ⟨x, List.mem_of_getElem? hx, by simpa using h⟩]; rfl
theorem all_next {α : Type} {f : α → Bool} {M : List α} {k : Nat} {x : α} (h : (M.take k).all f = true) (hx : M[k]? = some x) (hf : f x = true) : (M.take (k + 1)).all f = true := by rw [List.take_add_one, hx, List.all_append, h]; simp [hf]
theorem all_end {α : Type} {f : α → Bool} {M : List α} {k : Nat} (h : (M.take k).all f = true) (hk : M.length = k) : M.all f = true := by
  rw [List.take_of_length_le (by omega)] at h; exact h
set_option maxRecDepth 100000 in
set_option maxHeartbeats 4000000 in
theorem pattrs_any (A : Option Addr) (n c : Nat) (L : List Cst) (Aa : Option Addr) (na ca : Nat) (M : List AtE) (w : World) (hn : L.length = n) (hb : (n : Int) ≤ 9223372036854775807) (hr : RS cstC w w.heap.size A L) (hm : M.length = na) (hmb : (na : Int) ≤ 9223372036854775807) (ha : RA w w.heap.size Aa M) :
    Calls Try.prog 52 #[.slice A n c, .slice Aa na ca] w fun e w' => e = .returned (.bool (attsOk L (M.map AtE.p))) ∧ Below w.heap.size w w' := by
  have HL := bx hn
  have HR := bx hr
  have HM := bx hm
  have HA := bx ha
  obtain ⟨R, hR⟩ : ∃ R, attsOk L (M.map AtE.p) = R := ⟨_, rfl⟩
  rw [hR]
  have HRR := bx hR
  have HQ0 : Bx ((M.take 0).all (okE L) = true) := bx rfl
  clear hn hr hm ha hR
  go_enter Try.func52, Try.ntmps52
  go_wp2
  go_loopw [9] (fun iv wx => ∃ k : Nat, k ≤ na ∧ iv = .int .i64 (k : Int) ∧ Bx ((M.take k).all (okE L) = true) ∧ Bx (Below w.heap.size w wx)) (fun i _ => na - (intOf i).toNat)
  case atStart => exact ⟨0, by omega, rfl, HQ0, bx (Below.refl _ _)⟩
  case round =>
    clear HQ0
    obtain ⟨k, hk, rfl, HQ, HB⟩ := hrel
    by_cases hkn : k < na
    · have hkI : (k : Int) < (na : Int) := by omega
      obtain ⟨ad, x, rfl, _, HX, p0, p1, HSX⟩ := (HA.out.below HB.out (Nat.le_refl _)).at_ (k := k) (by rw [HM.out]; exact hkn)
      have hxl : (x.s.n : Int) ≤ 9223372036854775807 := by have := HSX.out.2.1; have := HSX.out.2.2.1; omega
      have HXL := bx HSX.out.1
      obtain ⟨C, hC⟩ : ∃ C, wr.heap.size = C := ⟨_, rfl⟩
      have HKC := bx (Bk.newAt wr 71 #[.int .i64 x.name, .slice x.s.A x.s.n x.s.c] hC)
      have HBC := bx (bl_alloc HB.out (Nat.le_refl _) (.cells #[.int .i64 x.name, .slice x.s.A x.s.n x.s.c] 71))
      have HC := bx hC
      clear hC
      go_upto_region 4 with (fail)
      rw [HC.out]
      generalize wr.alloc (.cells #[.int .i64 x.name, .slice x.s.A x.s.n x.s.c] 71) = wc at HKC HBC ⊢
      clear p0 p1 HC HSX
      have c0 : wc.cell? ⟨C, 0, none⟩ = some (.int .i64 x.name) := (HKC.out.cell 0).trans rfl
      have c1 : wc.cell? ⟨C, 1, none⟩ = some (.slice x.s.A x.s.n x.s.c) := (HKC.out.cell 1).trans rfl
      have HRC : Bx (RS cstC wc wc.heap.size A L) := bx (HR.out.step HBC.out)
      cases hq : decide (tagP L x.name = 1) with
      | false =>
        have HN : Bx (R = false) := bx (by rw [← HRR.out]; exact attsOk_bad HX.out (by show (decide (tagP L x.name = 1) && _) = false; rw [hq]; rfl))
        have HQ1 := bx hq
        clear hq
        go_wp2_with (go_at_call 50; refine (is_any _ n _ L _ 1 wc HL.out hb (by decide) HRC.out).mono ?_; rintro e w' ⟨rfl, rfl⟩; rw [HQ1.out])
        go_ret
        exact ⟨by rw [HN.out]; rfl, HBC.out⟩
      | true =>
        have HQ1 := bx hq
        by_cases hd : x.s.n ≤ 32768
        · have hdI : ¬ (32768 : Int) < (x.s.n : Int) := by omega
          have HQ2 := bx (all_next HQ.out HX.out (by show (decide (tagP L x.name = 1) && decide (x.s.l.length ≤ 32768)) = true; rw [hq, HXL.out, decide_eq_true hd]; rfl))
          clear hq
          go_wp2_with (go_at_call 50; refine (is_any _ n _ L _ 1 wc HL.out hb (by decide) HRC.out).mono ?_; rintro e w' ⟨rfl, rfl⟩; rw [HQ1.out])
          go_roundw
          case rel => exact ⟨k + 1, by omega, by go_num, HQ2, HBC⟩
          case measure => simp [intOf]; omega
        · have hdI : (32768 : Int) < (x.s.n : Int) := by omega
          have HN : Bx (R = false) := bx (by rw [← HRR.out]; exact attsOk_bad HX.out (by show (_ && decide (x.s.l.length ≤ 32768)) = false; rw [HXL.out, decide_eq_false hd, Bool.and_false]))
          clear hq
          go_wp2_with (go_at_call 50; refine (is_any _ n _ L _ 1 wc HL.out hb (by decide) HRC.out).mono ?_; rintro e w' ⟨rfl, rfl⟩; rw [HQ1.out])
          go_ret
          exact ⟨by rw [HN.out]; rfl, HBC.out⟩
    · obtain rfl : na = k := by omega
      have hkI : ¬ (na : Int) < (na : Int) := by omega
      have HN : Bx (R = decide (na ≤ 64)) := bx (by rw [← HRR.out, attsOk_E, all_end HQ.out HM.out, Bool.true_and, HM.out])
      by_cases h64 : na ≤ 64
      · have hI : (na : Int) ≤ 64 := by omega
        go_wp2
        go_ret
        exact ⟨by rw [HN.out, decide_eq_true h64]; try rfl, HB.out⟩
      · have hI : ¬ (na : Int) ≤ 64 := by omega
        go_wp2
        go_ret
        exact ⟨by rw [HN.out, decide_eq_false h64]; try rfl, HB.out⟩
theorem RM.at_ {w : World} {B : Nat} {A : Option Addr} {L : List MmE} (h : RM w B A L) {k : Nat} (hk : k < L.length) :
    ∃ ad x, A = some ad ∧ ad.block < B ∧ Bx (L[k]? = some x) ∧ w.cell? (ad.add (k * 4)) = some (.int .i64 x.access) ∧ w.cell? ⟨(ad.add (k * 4)).block, (ad.add (k * 4)).off + 1, none⟩ = some (.int .i64 x.name) ∧ w.cell? ⟨(ad.add (k * 4)).block, (ad.add (k * 4)).off + 2, none⟩ = some (.int .i64 x.desc) ∧
      w.cell? ⟨(ad.add (k * 4)).block, (ad.add (k * 4)).off + 3, none⟩ = some (.slice x.A x.n x.c) ∧ Bx (MmB w B x) := by
  obtain ⟨ad, x, hA, hlt, hx, hc, hcs⟩ := h.1.at_ memCels hk
  exact ⟨ad, x, hA, hlt, bx hx.out, hc _ rfl, hcs 0 _ rfl, hcs 1 _ rfl, hcs 2 _ rfl, bx (h.2 x (List.mem_of_getElem? hx.out))⟩
def okM (L : List Cst) (y : MmE) : Bool := memOk L y.p
theorem memsOk_E (L : List Cst) (M : List MmE) : memsOk L (M.map MmE.p) = (M.all (okM L) && decide (M.length ≤ 64)) := by unfold memsOk; rw [List.all_map, List.length_map]; rfl
theorem memsOk_bad {L : List Cst} {M : List MmE} {k : Nat} {x : MmE} (hx : M[k]? = some x) (h : okM L x = false) : memsOk L (M.map MmE.p) = false := by
  rw [memsOk_E, (List.all_eq_false).2 ⟨x, List.mem_of_getElem? hx, by simpa using h⟩]; rfl
theorem okM_E (L : List Cst) (x : MmE) : okM L x = (u2P x.access && decide (tagP L x.name = 1) && decide (tagP L x.desc = 1) && attsOk L (x.L.map AtE.p)) := rfl
theorem one_u2 (a : Int) : [a].all u2P = u2P a := by simp
set_option maxRecDepth 100000 in
set_option maxHeartbeats 4000000 in
theorem pmems_any (A : Option Addr) (n c : Nat) (L : List Cst) (Aa : Option Addr) (na ca : Nat) (M : List MmE) (w : World) (hn : L.length = n) (hb : (n : Int) ≤ 9223372036854775807) (hr : RS cstC w w.heap.size A L) (hm : M.length = na) (hmb : (na : Int) ≤ 9223372036854775807) (ha : RM w w.heap.size Aa M) :
    Calls Try.prog 51 #[.slice A n c, .slice Aa na ca] w fun e w' => e = .returned (.bool (memsOk L (M.map MmE.p))) ∧ Below w.heap.size w w' := by
  have HL := bx hn
  have HR := bx hr
  have HM := bx hm
  have HA := bx ha
  obtain ⟨R, hR⟩ : ∃ R, memsOk L (M.map MmE.p) = R := ⟨_, rfl⟩
  rw [hR]
  have HRR := bx hR
  have HQ0 : Bx ((M.take 0).all (okM L) = true) := bx rfl
  clear hn hr hm ha hR
  go_enter Try.func51, Try.ntmps51
  go_wp2
  go_loopw [9] (fun iv wx => ∃ k : Nat, k ≤ na ∧ iv = .int .i64 (k : Int) ∧ Bx ((M.take k).all (okM L) = true) ∧ Bx (Below w.heap.size w wx)) (fun i _ => na - (intOf i).toNat)
  case atStart => exact ⟨0, by omega, rfl, HQ0, bx (Below.refl _ _)⟩
  case round =>
    clear HQ0
    obtain ⟨k, hk, rfl, HQ, HB⟩ := hrel
    by_cases hkn : k < na
    · have hkI : (k : Int) < (na : Int) := by omega
      obtain ⟨ad, x, rfl, _, HX, p0, p1, p2, p3, HSX⟩ := (HA.out.below HB.out (Nat.le_refl _)).at_ (k := k) (by rw [HM.out]; exact hkn)
      obtain ⟨C, hC⟩ : ∃ C, wr.heap.size = C := ⟨_, rfl⟩
      have HSX2 := bx (HA.out.2 x (List.mem_of_getElem? HX.out))
      have HKB := bx (Bk.newAt wr 69 #[.int .i64 x.access, .int .i64 x.name, .int .i64 x.desc, .slice x.A x.n x.c] hC)
      have HBB := bx (bl_alloc HB.out (Nat.le_refl _) (.cells #[.int .i64 x.access, .int .i64 x.name, .int .i64 x.desc, .slice x.A x.n x.c] 69))
      have HC := bx hC
      clear hC
      go_upto_region 4 with (fail)
      rw [HC.out]
      generalize wr.alloc (.cells #[.int .i64 x.access, .int .i64 x.name, .int .i64 x.desc, .slice x.A x.n x.c] 69) = wb at HKB HBB ⊢
      clear p0 p1 p2 p3 HC
      have HKC := bx (HKB.out.alloc (.cells #[.int .i64 x.access] 3))
      have HBC := bx (bl_alloc HBB.out (Nat.le_refl _) (.cells #[.int .i64 x.access] 3))
      have HRI : Bx (RL iV (wb.alloc (.cells #[.int .i64 x.access] 3)) (wb.alloc (.cells #[.int .i64 x.access] 3)).heap.size (some ⟨wb.heap.size, 0, none⟩) [x.access]) := bx (RL.top (RL.freshe wb x.access rfl _))
      have b0 : wb.cell? ⟨C, 0, none⟩ = some (.int .i64 x.access) := (HKB.out.cell 0).trans rfl
      have HRC : Bx (RS cstC (wb.alloc (.cells #[.int .i64 x.access] 3)) (wb.alloc (.cells #[.int .i64 x.access] 3)).heap.size A L) := bx (HR.out.step HBC.out)
      have HSA : Bx (RA (wb.alloc (.cells #[.int .i64 x.access] 3)) (wb.alloc (.cells #[.int .i64 x.access] 3)).heap.size x.A x.L) := bx ((HSX2.out.2.2.2.below HBC.out (Nat.le_refl _)).more HBC.out.size)
      have c1 : (wb.alloc (.cells #[.int .i64 x.access] 3)).cell? ⟨C, 1, none⟩ = some (.int .i64 x.name) := (HKC.out.cell 1).trans rfl
      have c2 : (wb.alloc (.cells #[.int .i64 x.access] 3)).cell? ⟨C, 2, none⟩ = some (.int .i64 x.desc) := (HKC.out.cell 2).trans rfl
      have c3 : (wb.alloc (.cells #[.int .i64 x.access] 3)).cell? ⟨C, 3, none⟩ = some (.slice x.A x.n x.c) := (HKC.out.cell 3).trans rfl
      have hxn : (x.n : Int) ≤ 9223372036854775807 := by have := HSX.out.2.1; have := HSX.out.2.2.1; omega
      have HXN := bx HSX.out.1
      generalize hwc : wb.alloc (.cells #[.int .i64 x.access] 3) = wc at HKC HBC HRI HRC HSA c1 c2 c3
      have HWC := bx hwc
      clear hwc HSX
      obtain ⟨q1, hq1⟩ : ∃ q, u2P x.access = q := ⟨_, rfl⟩
      obtain ⟨q2, hq2⟩ : ∃ q, decide (tagP L x.name = 1) = q := ⟨_, rfl⟩
      obtain ⟨q3, hq3⟩ : ∃ q, decide (tagP L x.desc = 1) = q := ⟨_, rfl⟩
      obtain ⟨q4, hq4⟩ : ∃ q, attsOk L (x.L.map AtE.p) = q := ⟨_, rfl⟩
      have HU := bx hq1
      have HQN := bx hq2
      have HQD := bx hq3
      have HQA := bx hq4
      have HOK : Bx (okM L x = (q1 && q2 && q3 && q4)) := bx (by rw [okM_E, hq1, hq2, hq3, hq4])
      have HBAD : Bx (okM L x = false → R = false) := bx (fun h => by rw [← HRR.out]; exact memsOk_bad HX.out h)
      clear hq1 hq2 hq3 hq4
      cases q1 with
      | false =>
        have HN := bx (HBAD.out (by rw [HOK.out]; simp))
        go_wp2_with (first
        | (go_at_call 48; rw [HWC.out]; refine (small_any _ 1 1 [x.access] wc rfl (by decide) HRI.out).mono ?_; rintro e w' ⟨rfl, rfl⟩; rw [one_u2, HU.out])
        | (go_at_call 50; refine (is_any _ n _ L _ 1 wc HL.out hb (by decide) HRC.out).mono ?_; rintro e w' ⟨rfl, rfl⟩; first | rw [HQN.out] | rw [HQD.out])
        | (go_at_call 52; refine (pattrs_any _ n _ L _ x.n _ x.L wc HL.out hb HRC.out HXN.out hxn HSA.out).mono ?_; rintro e w5 ⟨rfl, hb5⟩; have HB5 := bx hb5; clear hb5; rw [HQA.out]))
        go_ret
        exact ⟨by rw [HN.out]; rfl, HBC.out⟩
      | true =>
        cases q2 with
        | false =>
          have HN := bx (HBAD.out (by rw [HOK.out]; simp))
          go_wp2_with (first
        | (go_at_call 48; rw [HWC.out]; refine (small_any _ 1 1 [x.access] wc rfl (by decide) HRI.out).mono ?_; rintro e w' ⟨rfl, rfl⟩; rw [one_u2, HU.out])
        | (go_at_call 50; refine (is_any _ n _ L _ 1 wc HL.out hb (by decide) HRC.out).mono ?_; rintro e w' ⟨rfl, rfl⟩; first | rw [HQN.out] | rw [HQD.out])
        | (go_at_call 52; refine (pattrs_any _ n _ L _ x.n _ x.L wc HL.out hb HRC.out HXN.out hxn HSA.out).mono ?_; rintro e w5 ⟨rfl, hb5⟩; have HB5 := bx hb5; clear hb5; rw [HQA.out]))
          go_ret
          exact ⟨by rw [HN.out]; rfl, HBC.out⟩
        | true =>
          cases q3 with
          | false =>
            have HN := bx (HBAD.out (by rw [HOK.out]; simp))
            go_wp2_with (first
        | (go_at_call 48; rw [HWC.out]; refine (small_any _ 1 1 [x.access] wc rfl (by decide) HRI.out).mono ?_; rintro e w' ⟨rfl, rfl⟩; rw [one_u2, HU.out])
        | (go_at_call 50; refine (is_any _ n _ L _ 1 wc HL.out hb (by decide) HRC.out).mono ?_; rintro e w' ⟨rfl, rfl⟩; first | rw [HQN.out] | rw [HQD.out])
        | (go_at_call 52; refine (pattrs_any _ n _ L _ x.n _ x.L wc HL.out hb HRC.out HXN.out hxn HSA.out).mono ?_; rintro e w5 ⟨rfl, hb5⟩; have HB5 := bx hb5; clear hb5; rw [HQA.out]))
            go_ret
            exact ⟨by rw [HN.out]; rfl, HBC.out⟩
          | true =>
            cases q4 with
            | false =>
              have HN := bx (HBAD.out (by rw [HOK.out]; simp))
              go_wp2_with (first
        | (go_at_call 48; rw [HWC.out]; refine (small_any _ 1 1 [x.access] wc rfl (by decide) HRI.out).mono ?_; rintro e w' ⟨rfl, rfl⟩; rw [one_u2, HU.out])
        | (go_at_call 50; refine (is_any _ n _ L _ 1 wc HL.out hb (by decide) HRC.out).mono ?_; rintro e w' ⟨rfl, rfl⟩; first | rw [HQN.out] | rw [HQD.out])
        | (go_at_call 52; refine (pattrs_any _ n _ L _ x.n _ x.L wc HL.out hb HRC.out HXN.out hxn HSA.out).mono ?_; rintro e w5 ⟨rfl, hb5⟩; have HB5 := bx hb5; clear hb5; rw [HQA.out]))
              go_ret
              exact ⟨by rw [HN.out]; rfl, HBC.out.trans (HB5.out.mono HBC.out.size)⟩
            | true =>
              have HQ2 := bx (all_next HQ.out HX.out (by rw [HOK.out]; rfl))
              go_wp2_with (first
        | (go_at_call 48; rw [HWC.out]; refine (small_any _ 1 1 [x.access] wc rfl (by decide) HRI.out).mono ?_; rintro e w' ⟨rfl, rfl⟩; rw [one_u2, HU.out])
        | (go_at_call 50; refine (is_any _ n _ L _ 1 wc HL.out hb (by decide) HRC.out).mono ?_; rintro e w' ⟨rfl, rfl⟩; first | rw [HQN.out] | rw [HQD.out])
        | (go_at_call 52; refine (pattrs_any _ n _ L _ x.n _ x.L wc HL.out hb HRC.out HXN.out hxn HSA.out).mono ?_; rintro e w5 ⟨rfl, hb5⟩; have HB5 := bx hb5; clear hb5; rw [HQA.out]))
              go_roundw
              case rel => exact ⟨k + 1, by omega, by go_num, HQ2, bx (HBC.out.trans (HB5.out.mono HBC.out.size))⟩
              case measure => simp [intOf]; omega
    · obtain rfl : na = k := by omega
      have hkI : ¬ (na : Int) < (na : Int) := by omega
      have HN : Bx (R = decide (na ≤ 64)) := bx (by rw [← HRR.out, memsOk_E, all_end HQ.out HM.out, Bool.true_and, HM.out])
      by_cases h64 : na ≤ 64
      · have hI : (na : Int) ≤ 64 := by omega
        go_wp2
        go_ret
        exact ⟨by rw [HN.out, decide_eq_true h64]; try rfl, HB.out⟩
      · have hI : ¬ (na : Int) ≤ 64 := by omega
        go_wp2
        go_ret
        exact ⟨by rw [HN.out, decide_eq_false h64]; try rfl, HB.out⟩
end Go.Proofs.Ytdioijhmmmnbgaa
